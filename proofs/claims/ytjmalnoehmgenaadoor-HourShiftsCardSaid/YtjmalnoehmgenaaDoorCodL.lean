/- Code, as it is looked at; written by wip/leancode.py. -/
import Derived.Test.YtjmalnoehmgenaaDoorAbsSeat
namespace Go.Abs.S
open Go.Proofs
set_option maxRecDepth 100000
def impCodL : FuncId → Bool := fun f => f == 26 || f == 28 || f == 36 || f == 62
/-- escutcheon/escutcheonlaw21.HourReads -/
def lc3 : LCode := .seq (.reg []
  [⟨some 2, Go.Op.assign (Go.Operand.const (Go.Value.bool false)), none⟩]) (.seq (.seq (.reg []
  [⟨some 9, Go.Op.call { callee := Go.Callee.value (Go.Operand.func 10), args := #[], argTypes := #[] }, none⟩,
  ⟨some 10, Go.Op.unOp Go.UnOp.not 4 (Go.Operand.tmp 9), none⟩,
  ⟨some 11, Go.Op.move (Go.Operand.tmp 10), none⟩,
  ⟨some 12, Go.Op.move (Go.Operand.tmp 0), (some (11, false))⟩,
  ⟨some 13, Go.Op.call { callee := Go.Callee.builtin Go.Builtin.len, args := #[Go.Operand.tmp 12], argTypes := #[9] }, (some (11, false))⟩,
  ⟨some 14, Go.Op.binOp Go.BinOp.gtr 3 (Go.Operand.tmp 13) (Go.Operand.const (Go.Value.int Go.IntKind.i64 60)) 3, (some (11, false))⟩,
  ⟨some 15, Go.Op.pick (Go.Operand.tmp 11) (Go.Operand.const (Go.Value.bool true)) (Go.Operand.tmp 14), none⟩]) (.cond (Go.Operand.tmp 15) (.seq (.reg []
  [⟨some 16, Go.Op.call { callee := Go.Callee.value (Go.Operand.func 10), args := #[], argTypes := #[] }, none⟩,
  ⟨some 2, Go.Op.assign (Go.Operand.tmp 16), none⟩]) (.ret)) (.skip))) (.seq (.reg []
  [⟨some 18, Go.Op.move (Go.Operand.tmp 0), none⟩,
  ⟨some 19, Go.Op.call { callee := Go.Callee.value (Go.Operand.func 11), args := #[Go.Operand.tmp 18], argTypes := #[9] }, none⟩,
  ⟨some 17, Go.Op.move (Go.Operand.tmp 19), none⟩,
  ⟨some 20, Go.Op.extract (Go.Operand.tmp 17) 0, none⟩,
  ⟨some 21, Go.Op.extract (Go.Operand.tmp 17) 1, none⟩,
  ⟨some 3, Go.Op.assign (Go.Operand.tmp 20), none⟩,
  ⟨some 4, Go.Op.assign (Go.Operand.tmp 21), none⟩]) (.seq (.reg []
  [⟨some 23, Go.Op.move (Go.Operand.tmp 0), none⟩,
  ⟨some 24, Go.Op.call { callee := Go.Callee.value (Go.Operand.func 12), args := #[Go.Operand.tmp 23], argTypes := #[9] }, none⟩,
  ⟨some 22, Go.Op.move (Go.Operand.tmp 24), none⟩,
  ⟨some 25, Go.Op.extract (Go.Operand.tmp 22) 0, none⟩,
  ⟨some 26, Go.Op.extract (Go.Operand.tmp 22) 1, none⟩,
  ⟨some 5, Go.Op.assign (Go.Operand.tmp 25), none⟩,
  ⟨some 6, Go.Op.assign (Go.Operand.tmp 26), none⟩]) (.seq (.seq (.reg []
  [⟨some 27, Go.Op.move (Go.Operand.tmp 4), none⟩,
  ⟨some 28, Go.Op.move (Go.Operand.tmp 6), none⟩,
  ⟨some 29, Go.Op.binOp Go.BinOp.neq 3 (Go.Operand.tmp 27) (Go.Operand.tmp 28) 3, none⟩,
  ⟨some 30, Go.Op.move (Go.Operand.tmp 29), none⟩,
  ⟨some 31, Go.Op.move (Go.Operand.tmp 3), (some (30, false))⟩,
  ⟨some 32, Go.Op.move (Go.Operand.tmp 5), (some (30, false))⟩,
  ⟨some 33, Go.Op.binOp Go.BinOp.neq 3 (Go.Operand.tmp 31) (Go.Operand.tmp 32) 3, (some (30, false))⟩,
  ⟨some 34, Go.Op.pick (Go.Operand.tmp 30) (Go.Operand.const (Go.Value.bool true)) (Go.Operand.tmp 33), none⟩]) (.cond (Go.Operand.tmp 34) (.seq (.reg []
  [⟨some 2, Go.Op.assign (Go.Operand.const (Go.Value.bool false)), none⟩]) (.ret)) (.skip))) (.seq (.seq (.reg []
  [⟨some 35, Go.Op.move (Go.Operand.tmp 6), none⟩,
  ⟨some 36, Go.Op.binOp Go.BinOp.neq 3 (Go.Operand.tmp 35) (Go.Operand.const (Go.Value.int Go.IntKind.i64 0)) 3, none⟩,
  ⟨some 37, Go.Op.move (Go.Operand.tmp 36), none⟩,
  ⟨some 38, Go.Op.move (Go.Operand.tmp 0), (some (37, false))⟩,
  ⟨some 39, Go.Op.call { callee := Go.Callee.builtin Go.Builtin.len, args := #[Go.Operand.tmp 38], argTypes := #[9] }, (some (37, false))⟩,
  ⟨some 40, Go.Op.binOp Go.BinOp.neq 3 (Go.Operand.tmp 39) (Go.Operand.const (Go.Value.int Go.IntKind.i64 20)) 3, (some (37, false))⟩,
  ⟨some 41, Go.Op.pick (Go.Operand.tmp 37) (Go.Operand.const (Go.Value.bool true)) (Go.Operand.tmp 40), none⟩]) (.cond (Go.Operand.tmp 41) (.seq (.reg []
  [⟨some 2, Go.Op.assign (Go.Operand.const (Go.Value.bool true)), none⟩]) (.ret)) (.skip))) (.seq (.reg []
  [⟨some 43, Go.Op.move (Go.Operand.tmp 3), none⟩,
  ⟨some 44, Go.Op.call { callee := Go.Callee.value (Go.Operand.func 13), args := #[Go.Operand.tmp 43], argTypes := #[3] }, none⟩,
  ⟨some 42, Go.Op.move (Go.Operand.tmp 44), none⟩,
  ⟨some 45, Go.Op.extract (Go.Operand.tmp 42) 0, none⟩,
  ⟨some 46, Go.Op.extract (Go.Operand.tmp 42) 1, none⟩,
  ⟨some 7, Go.Op.assign (Go.Operand.tmp 45), none⟩,
  ⟨some 8, Go.Op.assign (Go.Operand.tmp 46), none⟩]) (.seq (.reg []
  [⟨some 47, Go.Op.move (Go.Operand.tmp 8), none⟩,
  ⟨some 48, Go.Op.binOp Go.BinOp.eql 23 (Go.Operand.tmp 47) (Go.Operand.const (Go.Value.int Go.IntKind.i64 0)) 23, none⟩,
  ⟨some 49, Go.Op.move (Go.Operand.tmp 48), none⟩,
  ⟨some 50, Go.Op.move (Go.Operand.tmp 7), (some (49, true))⟩,
  ⟨some 51, Go.Op.move (Go.Operand.tmp 0), (some (49, true))⟩,
  ⟨some 52, Go.Op.binOp Go.BinOp.eql 9 (Go.Operand.tmp 50) (Go.Operand.tmp 51) 9, (some (49, true))⟩,
  ⟨some 53, Go.Op.pick (Go.Operand.tmp 49) (Go.Operand.tmp 52) (Go.Operand.const (Go.Value.bool false)), none⟩,
  ⟨some 2, Go.Op.assign (Go.Operand.tmp 53), none⟩]) (.ret))))))))
def mj3_0 : List Nat := [1, 2, 9, 10, 11, 12, 13, 14, 15, 16]
def mj3_1 : List Nat := [1, 2, 4, 5, 9, 10, 11, 12, 13, 14, 15, 16, 17, 18, 19, 20, 21, 22, 23, 24, 25, 26, 27, 28, 29, 30, 31, 32, 33, 34]
def mj3_2 : List Nat := [1, 2, 4, 5, 6, 9, 10, 11, 12, 13, 14, 15, 16, 17, 18, 19, 20, 21, 22, 23, 24, 25, 26, 27, 28, 29, 30, 31, 32, 33, 34, 35, 36, 37, 38, 39, 40, 41]
theorem ls3 : Tryd.f3.body.map (strip Tryd.prog impCodL) = some lc3 := by kernel_rfl
theorem lcall3 {args : List AV} (hargs : args.length ≤ 54) {H0 : AHeap} (lo : Nat) (hlo : H0.length ≤ lo) {r0 : AV} {H0' : AHeap}
    (h : lavc Tryd.prog glob lc3 (args ++ List.replicate (54 - args.length) (.v undef)) H0 fun e t H => (e = .normal ∨ e = .ret) ∧ aret Tryd.prog t H [Go.ResultVar.tmp 2] fun r => Fin lo H r r0 H0') :
    ACall Tryd.prog glob (H0.length == 0) 3 args H0 r0 H0' := LCall' ctx Tryd.func3 (by kernel_rfl) ls3 (by kernel_rfl) (by kernel_rfl) hargs lo hlo h
theorem lcallk3 {args : List AV} (hargs : args.length ≤ 54) {H0 : AHeap} {r0 : AV} {H0' : AHeap}
    (h : lavc Tryd.prog glob lc3 (args ++ List.replicate (54 - args.length) (.v undef)) H0 fun e t H => (e = .normal ∨ e = .ret) ∧ aret Tryd.prog t H [Go.ResultVar.tmp 2] fun r => r = r0 ∧ H = H0') :
    ACall Tryd.prog glob false 3 args H0 r0 H0' := LCallK' ctx Tryd.func3 (by kernel_rfl) ls3 (by kernel_rfl) (by kernel_rfl) hargs h
/-- escutcheon/escutcheonlaw21.HourTexts -/
def lc4 : LCode := .seq (.reg []
  [⟨some 2, Go.Op.assign (Go.Operand.const (Go.Value.bool false)), none⟩]) (.seq (.seq (.reg []
  [⟨some 9, Go.Op.call { callee := Go.Callee.value (Go.Operand.func 10), args := #[], argTypes := #[] }, none⟩,
  ⟨some 10, Go.Op.unOp Go.UnOp.not 4 (Go.Operand.tmp 9), none⟩]) (.cond (Go.Operand.tmp 10) (.seq (.reg []
  [⟨some 2, Go.Op.assign (Go.Operand.const (Go.Value.bool false)), none⟩]) (.ret)) (.skip))) (.seq (.reg []
  [⟨some 12, Go.Op.move (Go.Operand.tmp 0), none⟩,
  ⟨some 13, Go.Op.call { callee := Go.Callee.value (Go.Operand.func 13), args := #[Go.Operand.tmp 12], argTypes := #[3] }, none⟩,
  ⟨some 11, Go.Op.move (Go.Operand.tmp 13), none⟩,
  ⟨some 14, Go.Op.extract (Go.Operand.tmp 11) 0, none⟩,
  ⟨some 15, Go.Op.extract (Go.Operand.tmp 11) 1, none⟩,
  ⟨some 3, Go.Op.assign (Go.Operand.tmp 14), none⟩,
  ⟨some 4, Go.Op.assign (Go.Operand.tmp 15), none⟩]) (.seq (.seq (.reg []
  [⟨some 16, Go.Op.move (Go.Operand.tmp 0), none⟩,
  ⟨some 17, Go.Op.call { callee := Go.Callee.value (Go.Operand.func 14), args := #[], argTypes := #[] }, none⟩,
  ⟨some 18, Go.Op.binOp Go.BinOp.lss 3 (Go.Operand.tmp 16) (Go.Operand.tmp 17) 3, none⟩,
  ⟨some 19, Go.Op.move (Go.Operand.tmp 18), none⟩,
  ⟨some 20, Go.Op.move (Go.Operand.tmp 0), (some (19, false))⟩,
  ⟨some 21, Go.Op.call { callee := Go.Callee.value (Go.Operand.func 15), args := #[], argTypes := #[] }, (some (19, false))⟩,
  ⟨some 22, Go.Op.binOp Go.BinOp.gtr 3 (Go.Operand.tmp 20) (Go.Operand.tmp 21) 3, (some (19, false))⟩,
  ⟨some 23, Go.Op.pick (Go.Operand.tmp 19) (Go.Operand.const (Go.Value.bool true)) (Go.Operand.tmp 22), none⟩]) (.cond (Go.Operand.tmp 23) (.seq (.reg []
  [⟨some 24, Go.Op.move (Go.Operand.tmp 4), none⟩,
  ⟨some 25, Go.Op.binOp Go.BinOp.eql 23 (Go.Operand.tmp 24) (Go.Operand.const (Go.Value.int Go.IntKind.i64 12)) 23, none⟩,
  ⟨some 26, Go.Op.move (Go.Operand.tmp 25), none⟩,
  ⟨some 27, Go.Op.move (Go.Operand.tmp 3), (some (26, true))⟩,
  ⟨some 28, Go.Op.binOp Go.BinOp.eql 9 (Go.Operand.tmp 27) (Go.Operand.const (Go.Value.string { data := #[] })) 9, (some (26, true))⟩,
  ⟨some 29, Go.Op.pick (Go.Operand.tmp 26) (Go.Operand.tmp 28) (Go.Operand.const (Go.Value.bool false)), none⟩,
  ⟨some 2, Go.Op.assign (Go.Operand.tmp 29), none⟩]) (.ret)) (.skip))) (.seq (.reg []
  [⟨some 31, Go.Op.move (Go.Operand.tmp 3), none⟩,
  ⟨some 32, Go.Op.call { callee := Go.Callee.value (Go.Operand.func 11), args := #[Go.Operand.tmp 31], argTypes := #[9] }, none⟩,
  ⟨some 30, Go.Op.move (Go.Operand.tmp 32), none⟩,
  ⟨some 33, Go.Op.extract (Go.Operand.tmp 30) 0, none⟩,
  ⟨some 34, Go.Op.extract (Go.Operand.tmp 30) 1, none⟩,
  ⟨some 5, Go.Op.assign (Go.Operand.tmp 33), none⟩,
  ⟨some 6, Go.Op.assign (Go.Operand.tmp 34), none⟩]) (.seq (.reg []
  [⟨some 36, Go.Op.move (Go.Operand.tmp 3), none⟩,
  ⟨some 37, Go.Op.call { callee := Go.Callee.value (Go.Operand.func 12), args := #[Go.Operand.tmp 36], argTypes := #[9] }, none⟩,
  ⟨some 35, Go.Op.move (Go.Operand.tmp 37), none⟩,
  ⟨some 38, Go.Op.extract (Go.Operand.tmp 35) 0, none⟩,
  ⟨some 39, Go.Op.extract (Go.Operand.tmp 35) 1, none⟩,
  ⟨some 7, Go.Op.assign (Go.Operand.tmp 38), none⟩,
  ⟨some 8, Go.Op.assign (Go.Operand.tmp 39), none⟩]) (.seq (.reg []
  [⟨some 40, Go.Op.move (Go.Operand.tmp 4), none⟩,
  ⟨some 41, Go.Op.binOp Go.BinOp.eql 23 (Go.Operand.tmp 40) (Go.Operand.const (Go.Value.int Go.IntKind.i64 0)) 23, none⟩,
  ⟨some 42, Go.Op.move (Go.Operand.tmp 41), none⟩,
  ⟨some 43, Go.Op.move (Go.Operand.tmp 3), (some (42, true))⟩,
  ⟨some 44, Go.Op.call { callee := Go.Callee.builtin Go.Builtin.len, args := #[Go.Operand.tmp 43], argTypes := #[9] }, (some (42, true))⟩,
  ⟨some 45, Go.Op.binOp Go.BinOp.eql 3 (Go.Operand.tmp 44) (Go.Operand.const (Go.Value.int Go.IntKind.i64 20)) 3, (some (42, true))⟩,
  ⟨some 46, Go.Op.pick (Go.Operand.tmp 42) (Go.Operand.tmp 45) (Go.Operand.const (Go.Value.bool false)), none⟩,
  ⟨some 47, Go.Op.move (Go.Operand.tmp 46), none⟩,
  ⟨some 48, Go.Op.move (Go.Operand.tmp 5), (some (47, true))⟩,
  ⟨some 49, Go.Op.move (Go.Operand.tmp 0), (some (47, true))⟩,
  ⟨some 50, Go.Op.binOp Go.BinOp.eql 3 (Go.Operand.tmp 48) (Go.Operand.tmp 49) 3, (some (47, true))⟩,
  ⟨some 51, Go.Op.pick (Go.Operand.tmp 47) (Go.Operand.tmp 50) (Go.Operand.const (Go.Value.bool false)), none⟩,
  ⟨some 52, Go.Op.move (Go.Operand.tmp 51), none⟩,
  ⟨some 53, Go.Op.move (Go.Operand.tmp 6), (some (52, true))⟩,
  ⟨some 54, Go.Op.binOp Go.BinOp.eql 23 (Go.Operand.tmp 53) (Go.Operand.const (Go.Value.int Go.IntKind.i64 0)) 23, (some (52, true))⟩,
  ⟨some 55, Go.Op.pick (Go.Operand.tmp 52) (Go.Operand.tmp 54) (Go.Operand.const (Go.Value.bool false)), none⟩,
  ⟨some 56, Go.Op.move (Go.Operand.tmp 55), none⟩,
  ⟨some 57, Go.Op.move (Go.Operand.tmp 7), (some (56, true))⟩,
  ⟨some 58, Go.Op.move (Go.Operand.tmp 0), (some (56, true))⟩,
  ⟨some 59, Go.Op.binOp Go.BinOp.eql 3 (Go.Operand.tmp 57) (Go.Operand.tmp 58) 3, (some (56, true))⟩,
  ⟨some 60, Go.Op.pick (Go.Operand.tmp 56) (Go.Operand.tmp 59) (Go.Operand.const (Go.Value.bool false)), none⟩,
  ⟨some 61, Go.Op.move (Go.Operand.tmp 60), none⟩,
  ⟨some 62, Go.Op.move (Go.Operand.tmp 8), (some (61, true))⟩,
  ⟨some 63, Go.Op.binOp Go.BinOp.eql 3 (Go.Operand.tmp 62) (Go.Operand.const (Go.Value.int Go.IntKind.i64 0)) 3, (some (61, true))⟩,
  ⟨some 64, Go.Op.pick (Go.Operand.tmp 61) (Go.Operand.tmp 63) (Go.Operand.const (Go.Value.bool false)), none⟩,
  ⟨some 2, Go.Op.assign (Go.Operand.tmp 64), none⟩]) (.ret)))))))
def mj4_0 : List Nat := [1, 2, 9, 10]
def mj4_1 : List Nat := [1, 2, 9, 10, 11, 12, 13, 14, 15, 16, 17, 18, 19, 20, 21, 22, 23, 24, 25, 26, 27, 28, 29]
theorem ls4 : Tryd.f4.body.map (strip Tryd.prog impCodL) = some lc4 := by kernel_rfl
theorem lcall4 {args : List AV} (hargs : args.length ≤ 65) {H0 : AHeap} (lo : Nat) (hlo : H0.length ≤ lo) {r0 : AV} {H0' : AHeap}
    (h : lavc Tryd.prog glob lc4 (args ++ List.replicate (65 - args.length) (.v undef)) H0 fun e t H => (e = .normal ∨ e = .ret) ∧ aret Tryd.prog t H [Go.ResultVar.tmp 2] fun r => Fin lo H r r0 H0') :
    ACall Tryd.prog glob (H0.length == 0) 4 args H0 r0 H0' := LCall' ctx Tryd.func4 (by kernel_rfl) ls4 (by kernel_rfl) (by kernel_rfl) hargs lo hlo h
theorem lcallk4 {args : List AV} (hargs : args.length ≤ 65) {H0 : AHeap} {r0 : AV} {H0' : AHeap}
    (h : lavc Tryd.prog glob lc4 (args ++ List.replicate (65 - args.length) (.v undef)) H0 fun e t H => (e = .normal ∨ e = .ret) ∧ aret Tryd.prog t H [Go.ResultVar.tmp 2] fun r => r = r0 ∧ H = H0') :
    ACall Tryd.prog glob false 4 args H0 r0 H0' := LCallK' ctx Tryd.func4 (by kernel_rfl) ls4 (by kernel_rfl) (by kernel_rfl) hargs h
/-- escutcheon/escutcheonlaw21.HourDays -/
def lc5 : LCode := .seq (.reg []
  [⟨some 6, Go.Op.assign (Go.Operand.const (Go.Value.bool false)), none⟩]) (.seq (.seq (.reg []
  [⟨some 12, Go.Op.call { callee := Go.Callee.value (Go.Operand.func 10), args := #[], argTypes := #[] }, none⟩,
  ⟨some 13, Go.Op.unOp Go.UnOp.not 4 (Go.Operand.tmp 12), none⟩]) (.cond (Go.Operand.tmp 13) (.seq (.reg []
  [⟨some 6, Go.Op.assign (Go.Operand.const (Go.Value.bool false)), none⟩]) (.ret)) (.skip))) (.seq (.reg []
  [⟨some 14, Go.Op.move (Go.Operand.tmp 0), none⟩,
  ⟨some 15, Go.Op.move (Go.Operand.tmp 1), none⟩,
  ⟨some 16, Go.Op.call { callee := Go.Callee.value (Go.Operand.func 16), args := #[Go.Operand.tmp 14, Go.Operand.tmp 15], argTypes := #[3, 3] }, none⟩,
  ⟨some 7, Go.Op.assign (Go.Operand.tmp 16), none⟩]) (.seq (.seq (.reg []
  [⟨some 17, Go.Op.move (Go.Operand.tmp 0), none⟩,
  ⟨some 18, Go.Op.move (Go.Operand.tmp 1), none⟩,
  ⟨some 19, Go.Op.call { callee := Go.Callee.value (Go.Operand.func 17), args := #[Go.Operand.tmp 17, Go.Operand.tmp 18], argTypes := #[3, 3] }, none⟩,
  ⟨some 20, Go.Op.move (Go.Operand.tmp 7), none⟩,
  ⟨some 21, Go.Op.binOp Go.BinOp.neq 3 (Go.Operand.tmp 19) (Go.Operand.tmp 20) 3, none⟩]) (.cond (Go.Operand.tmp 21) (.seq (.reg []
  [⟨some 6, Go.Op.assign (Go.Operand.const (Go.Value.bool false)), none⟩]) (.ret)) (.skip))) (.seq (.seq (.reg []
  [⟨some 22, Go.Op.move (Go.Operand.tmp 7), none⟩,
  ⟨some 23, Go.Op.binOp Go.BinOp.eql 3 (Go.Operand.tmp 22) (Go.Operand.const (Go.Value.int Go.IntKind.i64 0)) 3, none⟩,
  ⟨some 24, Go.Op.move (Go.Operand.tmp 23), none⟩,
  ⟨some 25, Go.Op.move (Go.Operand.tmp 2), (some (24, false))⟩,
  ⟨some 26, Go.Op.binOp Go.BinOp.lss 3 (Go.Operand.tmp 25) (Go.Operand.const (Go.Value.int Go.IntKind.i64 1)) 3, (some (24, false))⟩,
  ⟨some 27, Go.Op.pick (Go.Operand.tmp 24) (Go.Operand.const (Go.Value.bool true)) (Go.Operand.tmp 26), none⟩,
  ⟨some 28, Go.Op.move (Go.Operand.tmp 27), none⟩,
  ⟨some 29, Go.Op.move (Go.Operand.tmp 2), (some (28, false))⟩,
  ⟨some 30, Go.Op.move (Go.Operand.tmp 7), (some (28, false))⟩,
  ⟨some 31, Go.Op.binOp Go.BinOp.gtr 3 (Go.Operand.tmp 29) (Go.Operand.tmp 30) 3, (some (28, false))⟩,
  ⟨some 32, Go.Op.pick (Go.Operand.tmp 28) (Go.Operand.const (Go.Value.bool true)) (Go.Operand.tmp 31), none⟩]) (.cond (Go.Operand.tmp 32) (.seq (.reg []
  [⟨some 6, Go.Op.assign (Go.Operand.const (Go.Value.bool true)), none⟩]) (.ret)) (.skip))) (.seq (.reg []
  [⟨some 34, Go.Op.move (Go.Operand.tmp 0), none⟩,
  ⟨some 35, Go.Op.move (Go.Operand.tmp 1), none⟩,
  ⟨some 36, Go.Op.move (Go.Operand.tmp 2), none⟩,
  ⟨some 37, Go.Op.call { callee := Go.Callee.value (Go.Operand.func 18), args := #[Go.Operand.tmp 34, Go.Operand.tmp 35, Go.Operand.tmp 36, Go.Operand.const (Go.Value.int Go.IntKind.i64 0), Go.Operand.const (Go.Value.int Go.IntKind.i64 0), Go.Operand.const (Go.Value.int Go.IntKind.i64 0)], argTypes := #[3, 3, 3, 3, 3, 3] }, none⟩,
  ⟨some 38, Go.Op.call { callee := Go.Callee.value (Go.Operand.func 13), args := #[Go.Operand.tmp 37], argTypes := #[3] }, none⟩,
  ⟨some 33, Go.Op.move (Go.Operand.tmp 38), none⟩,
  ⟨some 39, Go.Op.extract (Go.Operand.tmp 33) 0, none⟩,
  ⟨some 40, Go.Op.extract (Go.Operand.tmp 33) 1, none⟩,
  ⟨some 8, Go.Op.assign (Go.Operand.tmp 39), none⟩,
  ⟨some 9, Go.Op.assign (Go.Operand.tmp 40), none⟩]) (.seq (.reg []
  [⟨some 42, Go.Op.move (Go.Operand.tmp 0), none⟩,
  ⟨some 43, Go.Op.move (Go.Operand.tmp 1), none⟩,
  ⟨some 44, Go.Op.move (Go.Operand.tmp 2), none⟩,
  ⟨some 45, Go.Op.call { callee := Go.Callee.value (Go.Operand.func 18), args := #[Go.Operand.tmp 42, Go.Operand.tmp 43, Go.Operand.tmp 44, Go.Operand.const (Go.Value.int Go.IntKind.i64 23), Go.Operand.const (Go.Value.int Go.IntKind.i64 59), Go.Operand.const (Go.Value.int Go.IntKind.i64 59)], argTypes := #[3, 3, 3, 3, 3, 3] }, none⟩,
  ⟨some 46, Go.Op.call { callee := Go.Callee.value (Go.Operand.func 13), args := #[Go.Operand.tmp 45], argTypes := #[3] }, none⟩,
  ⟨some 41, Go.Op.move (Go.Operand.tmp 46), none⟩,
  ⟨some 47, Go.Op.extract (Go.Operand.tmp 41) 0, none⟩,
  ⟨some 48, Go.Op.extract (Go.Operand.tmp 41) 1, none⟩,
  ⟨some 10, Go.Op.assign (Go.Operand.tmp 47), none⟩,
  ⟨some 11, Go.Op.assign (Go.Operand.tmp 48), none⟩]) (.seq (.reg [⟨some 49, Go.Op.move (Go.Operand.tmp 9), none⟩,
  ⟨some 50, Go.Op.binOp Go.BinOp.eql 23 (Go.Operand.tmp 49) (Go.Operand.const (Go.Value.int Go.IntKind.i64 0)) 23, none⟩,
  ⟨some 51, Go.Op.move (Go.Operand.tmp 50), none⟩,
  ⟨some 52, Go.Op.move (Go.Operand.tmp 11), (some (51, true))⟩,
  ⟨some 53, Go.Op.binOp Go.BinOp.eql 23 (Go.Operand.tmp 52) (Go.Operand.const (Go.Value.int Go.IntKind.i64 0)) 23, (some (51, true))⟩,
  ⟨some 54, Go.Op.pick (Go.Operand.tmp 51) (Go.Operand.tmp 53) (Go.Operand.const (Go.Value.bool false)), none⟩,
  ⟨some 55, Go.Op.move (Go.Operand.tmp 54), none⟩,
  ⟨some 56, Go.Op.move (Go.Operand.tmp 8), (some (55, true))⟩,
  ⟨some 57, Go.Op.slice 9 (Go.Operand.tmp 56) none (some (Go.Operand.const (Go.Value.int Go.IntKind.i64 10))) none, (some (55, true))⟩,
  ⟨some 58, Go.Op.move (Go.Operand.tmp 10), (some (55, true))⟩,
  ⟨some 59, Go.Op.slice 9 (Go.Operand.tmp 58) none (some (Go.Operand.const (Go.Value.int Go.IntKind.i64 10))) none, (some (55, true))⟩,
  ⟨some 60, Go.Op.binOp Go.BinOp.eql 9 (Go.Operand.tmp 57) (Go.Operand.tmp 59) 9, (some (55, true))⟩,
  ⟨some 61, Go.Op.pick (Go.Operand.tmp 55) (Go.Operand.tmp 60) (Go.Operand.const (Go.Value.bool false)), none⟩,
  ⟨some 62, Go.Op.move (Go.Operand.tmp 61), none⟩,
  ⟨some 63, Go.Op.move (Go.Operand.tmp 8), (some (62, true))⟩,
  ⟨some 64, Go.Op.slice 9 (Go.Operand.tmp 63) (some (Go.Operand.const (Go.Value.int Go.IntKind.i64 10))) none none, (some (62, true))⟩,
  ⟨some 65, Go.Op.binOp Go.BinOp.eql 9 (Go.Operand.tmp 64) (Go.Operand.const (Go.Value.string { data := #[84, 48, 48, 58, 48, 48, 58, 48, 48, 90] })) 9, (some (62, true))⟩,
  ⟨some 66, Go.Op.pick (Go.Operand.tmp 62) (Go.Operand.tmp 65) (Go.Operand.const (Go.Value.bool false)), none⟩,
  ⟨some 67, Go.Op.move (Go.Operand.tmp 66), none⟩,
  ⟨some 68, Go.Op.move (Go.Operand.tmp 10), (some (67, true))⟩,
  ⟨some 69, Go.Op.slice 9 (Go.Operand.tmp 68) (some (Go.Operand.const (Go.Value.int Go.IntKind.i64 10))) none none, (some (67, true))⟩,
  ⟨some 70, Go.Op.binOp Go.BinOp.eql 9 (Go.Operand.tmp 69) (Go.Operand.const (Go.Value.string { data := #[84, 50, 51, 58, 53, 57, 58, 53, 57, 90] })) 9, (some (67, true))⟩,
  ⟨some 71, Go.Op.pick (Go.Operand.tmp 67) (Go.Operand.tmp 70) (Go.Operand.const (Go.Value.bool false)), none⟩,
  ⟨some 6, Go.Op.assign (Go.Operand.tmp 71), none⟩]
  []) (.ret))))))))
def mj5_0 : List Nat := [3, 4, 5, 6, 12, 13]
def mj5_1 : List Nat := [3, 4, 5, 6, 12, 13, 14, 15, 16, 17, 18, 19, 20, 21]
def mj5_2 : List Nat := [3, 4, 5, 6, 7, 12, 13, 14, 15, 16, 17, 18, 19, 20, 21, 22, 23, 24, 25, 26, 27, 28, 29, 30, 31, 32]
theorem ls5 : Tryd.f5.body.map (strip Tryd.prog impCodL) = some lc5 := by kernel_rfl
theorem lcall5 {args : List AV} (hargs : args.length ≤ 72) {H0 : AHeap} (lo : Nat) (hlo : H0.length ≤ lo) {r0 : AV} {H0' : AHeap}
    (h : lavc Tryd.prog glob lc5 (args ++ List.replicate (72 - args.length) (.v undef)) H0 fun e t H => (e = .normal ∨ e = .ret) ∧ aret Tryd.prog t H [Go.ResultVar.tmp 6] fun r => Fin lo H r r0 H0') :
    ACall Tryd.prog glob (H0.length == 0) 5 args H0 r0 H0' := LCall' ctx Tryd.func5 (by kernel_rfl) ls5 (by kernel_rfl) (by kernel_rfl) hargs lo hlo h
theorem lcallk5 {args : List AV} (hargs : args.length ≤ 72) {H0 : AHeap} {r0 : AV} {H0' : AHeap}
    (h : lavc Tryd.prog glob lc5 (args ++ List.replicate (72 - args.length) (.v undef)) H0 fun e t H => (e = .normal ∨ e = .ret) ∧ aret Tryd.prog t H [Go.ResultVar.tmp 6] fun r => r = r0 ∧ H = H0') :
    ACall Tryd.prog glob false 5 args H0 r0 H0' := LCallK' ctx Tryd.func5 (by kernel_rfl) ls5 (by kernel_rfl) (by kernel_rfl) hargs h
/-- escutcheon/escutcheonlaw21.HourShifts -/
def lc6 : LCode := .seq (.reg []
  [⟨some 6, Go.Op.assign (Go.Operand.const (Go.Value.bool false)), none⟩]) (.seq (.seq (.reg []
  [⟨some 16, Go.Op.call { callee := Go.Callee.value (Go.Operand.func 10), args := #[], argTypes := #[] }, none⟩,
  ⟨some 17, Go.Op.unOp Go.UnOp.not 4 (Go.Operand.tmp 16), none⟩,
  ⟨some 18, Go.Op.move (Go.Operand.tmp 17), none⟩,
  ⟨some 19, Go.Op.move (Go.Operand.tmp 0), (some (18, false))⟩,
  ⟨some 20, Go.Op.call { callee := Go.Callee.value (Go.Operand.func 14), args := #[], argTypes := #[] }, (some (18, false))⟩,
  ⟨some 21, Go.Op.binOp Go.BinOp.add 3 (Go.Operand.tmp 20) (Go.Operand.const (Go.Value.int Go.IntKind.i64 100000)) 3, (some (18, false))⟩,
  ⟨some 22, Go.Op.binOp Go.BinOp.lss 3 (Go.Operand.tmp 19) (Go.Operand.tmp 21) 3, (some (18, false))⟩,
  ⟨some 23, Go.Op.pick (Go.Operand.tmp 18) (Go.Operand.const (Go.Value.bool true)) (Go.Operand.tmp 22), none⟩,
  ⟨some 24, Go.Op.move (Go.Operand.tmp 23), none⟩,
  ⟨some 25, Go.Op.move (Go.Operand.tmp 0), (some (24, false))⟩,
  ⟨some 26, Go.Op.call { callee := Go.Callee.value (Go.Operand.func 15), args := #[], argTypes := #[] }, (some (24, false))⟩,
  ⟨some 27, Go.Op.binOp Go.BinOp.sub 3 (Go.Operand.tmp 26) (Go.Operand.const (Go.Value.int Go.IntKind.i64 100000)) 3, (some (24, false))⟩,
  ⟨some 28, Go.Op.binOp Go.BinOp.gtr 3 (Go.Operand.tmp 25) (Go.Operand.tmp 27) 3, (some (24, false))⟩,
  ⟨some 29, Go.Op.pick (Go.Operand.tmp 24) (Go.Operand.const (Go.Value.bool true)) (Go.Operand.tmp 28), none⟩]) (.cond (Go.Operand.tmp 29) (.seq (.reg []
  [⟨some 30, Go.Op.call { callee := Go.Callee.value (Go.Operand.func 10), args := #[], argTypes := #[] }, none⟩,
  ⟨some 6, Go.Op.assign (Go.Operand.tmp 30), none⟩]) (.ret)) (.skip))) (.seq (.reg []
  [⟨some 32, Go.Op.move (Go.Operand.tmp 0), none⟩,
  ⟨some 33, Go.Op.call { callee := Go.Callee.value (Go.Operand.func 13), args := #[Go.Operand.tmp 32], argTypes := #[3] }, none⟩,
  ⟨some 31, Go.Op.move (Go.Operand.tmp 33), none⟩,
  ⟨some 34, Go.Op.extract (Go.Operand.tmp 31) 0, none⟩,
  ⟨some 35, Go.Op.extract (Go.Operand.tmp 31) 1, none⟩,
  ⟨some 7, Go.Op.assign (Go.Operand.tmp 34), none⟩,
  ⟨some 8, Go.Op.assign (Go.Operand.tmp 35), none⟩]) (.seq (.reg []
  [⟨some 36, Go.Op.move (Go.Operand.tmp 1), none⟩,
  ⟨some 37, Go.Op.binOp Go.BinOp.rem 5 (Go.Operand.tmp 36) (Go.Operand.const (Go.Value.int Go.IntKind.u8 24)) 5, none⟩,
  ⟨some 38, Go.Op.convert 5 3 (Go.Operand.tmp 37), none⟩,
  ⟨some 39, Go.Op.move (Go.Operand.tmp 2), none⟩,
  ⟨some 40, Go.Op.binOp Go.BinOp.rem 5 (Go.Operand.tmp 39) (Go.Operand.const (Go.Value.int Go.IntKind.u8 60)) 5, none⟩,
  ⟨some 41, Go.Op.convert 5 3 (Go.Operand.tmp 40), none⟩,
  ⟨some 9, Go.Op.assign (Go.Operand.tmp 38), none⟩,
  ⟨some 10, Go.Op.assign (Go.Operand.tmp 41), none⟩]) (.seq (.reg []
  [⟨some 42, Go.Op.move (Go.Operand.tmp 9), none⟩,
  ⟨some 43, Go.Op.binOp Go.BinOp.quo 3 (Go.Operand.tmp 42) (Go.Operand.const (Go.Value.int Go.IntKind.i64 10)) 3, none⟩,
  ⟨some 44, Go.Op.binOp Go.BinOp.add 3 (Go.Operand.const (Go.Value.int Go.IntKind.i64 48)) (Go.Operand.tmp 43) 3, none⟩,
  ⟨some 45, Go.Op.convert 3 5 (Go.Operand.tmp 44), none⟩,
  ⟨some 46, Go.Op.move (Go.Operand.tmp 9), none⟩,
  ⟨some 47, Go.Op.binOp Go.BinOp.rem 3 (Go.Operand.tmp 46) (Go.Operand.const (Go.Value.int Go.IntKind.i64 10)) 3, none⟩,
  ⟨some 48, Go.Op.binOp Go.BinOp.add 3 (Go.Operand.const (Go.Value.int Go.IntKind.i64 48)) (Go.Operand.tmp 47) 3, none⟩,
  ⟨some 49, Go.Op.convert 3 5 (Go.Operand.tmp 48), none⟩,
  ⟨some 50, Go.Op.move (Go.Operand.tmp 10), none⟩,
  ⟨some 51, Go.Op.binOp Go.BinOp.quo 3 (Go.Operand.tmp 50) (Go.Operand.const (Go.Value.int Go.IntKind.i64 10)) 3, none⟩,
  ⟨some 52, Go.Op.binOp Go.BinOp.add 3 (Go.Operand.const (Go.Value.int Go.IntKind.i64 48)) (Go.Operand.tmp 51) 3, none⟩,
  ⟨some 53, Go.Op.convert 3 5 (Go.Operand.tmp 52), none⟩,
  ⟨some 54, Go.Op.move (Go.Operand.tmp 10), none⟩,
  ⟨some 55, Go.Op.binOp Go.BinOp.rem 3 (Go.Operand.tmp 54) (Go.Operand.const (Go.Value.int Go.IntKind.i64 10)) 3, none⟩,
  ⟨some 56, Go.Op.binOp Go.BinOp.add 3 (Go.Operand.const (Go.Value.int Go.IntKind.i64 48)) (Go.Operand.tmp 55) 3, none⟩,
  ⟨some 57, Go.Op.convert 3 5 (Go.Operand.tmp 56), none⟩,
  ⟨some 58, Go.Op.buildSlice 36 5 #[(0, Go.Operand.tmp 45), (1, Go.Operand.tmp 49), (2, Go.Operand.const (Go.Value.int Go.IntKind.u8 58)), (3, Go.Operand.tmp 53), (4, Go.Operand.tmp 57)], none⟩,
  ⟨some 59, Go.Op.convert 36 9 (Go.Operand.tmp 58), none⟩,
  ⟨some 11, Go.Op.assign (Go.Operand.tmp 59), none⟩]) (.seq (.seq (.reg []
  [⟨some 60, Go.Op.move (Go.Operand.tmp 8), none⟩,
  ⟨some 61, Go.Op.binOp Go.BinOp.neq 23 (Go.Operand.tmp 60) (Go.Operand.const (Go.Value.int Go.IntKind.i64 0)) 23, none⟩,
  ⟨some 62, Go.Op.move (Go.Operand.tmp 61), none⟩,
  ⟨some 63, Go.Op.move (Go.Operand.tmp 7), (some (62, false))⟩,
  ⟨some 64, Go.Op.call { callee := Go.Callee.builtin Go.Builtin.len, args := #[Go.Operand.tmp 63], argTypes := #[9] }, (some (62, false))⟩,
  ⟨some 65, Go.Op.binOp Go.BinOp.neq 3 (Go.Operand.tmp 64) (Go.Operand.const (Go.Value.int Go.IntKind.i64 20)) 3, (some (62, false))⟩,
  ⟨some 66, Go.Op.pick (Go.Operand.tmp 62) (Go.Operand.const (Go.Value.bool true)) (Go.Operand.tmp 65), none⟩]) (.cond (Go.Operand.tmp 66) (.seq (.reg []
  [⟨some 6, Go.Op.assign (Go.Operand.const (Go.Value.bool false)), none⟩]) (.ret)) (.skip))) (.seq (.reg []
  [⟨some 68, Go.Op.move (Go.Operand.tmp 7), none⟩,
  ⟨some 69, Go.Op.slice 9 (Go.Operand.tmp 68) none (some (Go.Operand.const (Go.Value.int Go.IntKind.i64 19))) none, none⟩,
  ⟨some 70, Go.Op.binOp Go.BinOp.add 9 (Go.Operand.tmp 69) (Go.Operand.const (Go.Value.string { data := #[43] })) 9, none⟩,
  ⟨some 71, Go.Op.move (Go.Operand.tmp 11), none⟩,
  ⟨some 72, Go.Op.binOp Go.BinOp.add 9 (Go.Operand.tmp 70) (Go.Operand.tmp 71) 9, none⟩,
  ⟨some 73, Go.Op.call { callee := Go.Callee.value (Go.Operand.func 11), args := #[Go.Operand.tmp 72], argTypes := #[9] }, none⟩,
  ⟨some 67, Go.Op.move (Go.Operand.tmp 73), none⟩,
  ⟨some 74, Go.Op.extract (Go.Operand.tmp 67) 0, none⟩,
  ⟨some 75, Go.Op.extract (Go.Operand.tmp 67) 1, none⟩,
  ⟨some 12, Go.Op.assign (Go.Operand.tmp 74), none⟩,
  ⟨some 13, Go.Op.assign (Go.Operand.tmp 75), none⟩]) (.seq (.reg []
  [⟨some 77, Go.Op.move (Go.Operand.tmp 7), none⟩,
  ⟨some 78, Go.Op.slice 9 (Go.Operand.tmp 77) none (some (Go.Operand.const (Go.Value.int Go.IntKind.i64 19))) none, none⟩,
  ⟨some 79, Go.Op.binOp Go.BinOp.add 9 (Go.Operand.tmp 78) (Go.Operand.const (Go.Value.string { data := #[45] })) 9, none⟩,
  ⟨some 80, Go.Op.move (Go.Operand.tmp 11), none⟩,
  ⟨some 81, Go.Op.binOp Go.BinOp.add 9 (Go.Operand.tmp 79) (Go.Operand.tmp 80) 9, none⟩,
  ⟨some 82, Go.Op.call { callee := Go.Callee.value (Go.Operand.func 11), args := #[Go.Operand.tmp 81], argTypes := #[9] }, none⟩,
  ⟨some 76, Go.Op.move (Go.Operand.tmp 82), none⟩,
  ⟨some 83, Go.Op.extract (Go.Operand.tmp 76) 0, none⟩,
  ⟨some 84, Go.Op.extract (Go.Operand.tmp 76) 1, none⟩,
  ⟨some 14, Go.Op.assign (Go.Operand.tmp 83), none⟩,
  ⟨some 15, Go.Op.assign (Go.Operand.tmp 84), none⟩]) (.seq (.reg []
  [⟨some 85, Go.Op.move (Go.Operand.tmp 13), none⟩,
  ⟨some 86, Go.Op.binOp Go.BinOp.eql 23 (Go.Operand.tmp 85) (Go.Operand.const (Go.Value.int Go.IntKind.i64 0)) 23, none⟩,
  ⟨some 87, Go.Op.move (Go.Operand.tmp 86), none⟩,
  ⟨some 88, Go.Op.move (Go.Operand.tmp 15), (some (87, true))⟩,
  ⟨some 89, Go.Op.binOp Go.BinOp.eql 23 (Go.Operand.tmp 88) (Go.Operand.const (Go.Value.int Go.IntKind.i64 0)) 23, (some (87, true))⟩,
  ⟨some 90, Go.Op.pick (Go.Operand.tmp 87) (Go.Operand.tmp 89) (Go.Operand.const (Go.Value.bool false)), none⟩,
  ⟨some 91, Go.Op.move (Go.Operand.tmp 90), none⟩,
  ⟨some 92, Go.Op.move (Go.Operand.tmp 12), (some (91, true))⟩,
  ⟨some 93, Go.Op.move (Go.Operand.tmp 0), (some (91, true))⟩,
  ⟨some 94, Go.Op.move (Go.Operand.tmp 9), (some (91, true))⟩,
  ⟨some 95, Go.Op.binOp Go.BinOp.mul 3 (Go.Operand.tmp 94) (Go.Operand.const (Go.Value.int Go.IntKind.i64 3600)) 3, (some (91, true))⟩,
  ⟨some 96, Go.Op.binOp Go.BinOp.sub 3 (Go.Operand.tmp 93) (Go.Operand.tmp 95) 3, (some (91, true))⟩,
  ⟨some 97, Go.Op.move (Go.Operand.tmp 10), (some (91, true))⟩,
  ⟨some 98, Go.Op.binOp Go.BinOp.mul 3 (Go.Operand.tmp 97) (Go.Operand.const (Go.Value.int Go.IntKind.i64 60)) 3, (some (91, true))⟩,
  ⟨some 99, Go.Op.binOp Go.BinOp.sub 3 (Go.Operand.tmp 96) (Go.Operand.tmp 98) 3, (some (91, true))⟩,
  ⟨some 100, Go.Op.binOp Go.BinOp.eql 3 (Go.Operand.tmp 92) (Go.Operand.tmp 99) 3, (some (91, true))⟩,
  ⟨some 101, Go.Op.pick (Go.Operand.tmp 91) (Go.Operand.tmp 100) (Go.Operand.const (Go.Value.bool false)), none⟩,
  ⟨some 102, Go.Op.move (Go.Operand.tmp 101), none⟩,
  ⟨some 103, Go.Op.move (Go.Operand.tmp 14), (some (102, true))⟩,
  ⟨some 104, Go.Op.move (Go.Operand.tmp 0), (some (102, true))⟩,
  ⟨some 105, Go.Op.move (Go.Operand.tmp 9), (some (102, true))⟩,
  ⟨some 106, Go.Op.binOp Go.BinOp.mul 3 (Go.Operand.tmp 105) (Go.Operand.const (Go.Value.int Go.IntKind.i64 3600)) 3, (some (102, true))⟩,
  ⟨some 107, Go.Op.binOp Go.BinOp.add 3 (Go.Operand.tmp 104) (Go.Operand.tmp 106) 3, (some (102, true))⟩,
  ⟨some 108, Go.Op.move (Go.Operand.tmp 10), (some (102, true))⟩,
  ⟨some 109, Go.Op.binOp Go.BinOp.mul 3 (Go.Operand.tmp 108) (Go.Operand.const (Go.Value.int Go.IntKind.i64 60)) 3, (some (102, true))⟩,
  ⟨some 110, Go.Op.binOp Go.BinOp.add 3 (Go.Operand.tmp 107) (Go.Operand.tmp 109) 3, (some (102, true))⟩,
  ⟨some 111, Go.Op.binOp Go.BinOp.eql 3 (Go.Operand.tmp 103) (Go.Operand.tmp 110) 3, (some (102, true))⟩,
  ⟨some 112, Go.Op.pick (Go.Operand.tmp 102) (Go.Operand.tmp 111) (Go.Operand.const (Go.Value.bool false)), none⟩,
  ⟨some 6, Go.Op.assign (Go.Operand.tmp 112), none⟩]) (.ret)))))))))
def mj6_0 : List Nat := [3, 4, 5, 6, 16, 17, 18, 19, 20, 21, 22, 23, 24, 25, 26, 27, 28, 29, 30]
def mj6_1 : List Nat := [1, 2, 3, 4, 5, 6, 8, 16, 17, 18, 19, 20, 21, 22, 23, 24, 25, 26, 27, 28, 29, 30, 31, 32, 33, 34, 35, 36, 37, 38, 39, 40, 41, 42, 43, 44, 45, 46, 47, 48, 49, 50, 51, 52, 53, 54, 55, 56, 57, 58, 59, 60, 61, 62, 63, 64, 65, 66]
theorem ls6 : Tryd.f6.body.map (strip Tryd.prog impCodL) = some lc6 := by kernel_rfl
theorem lcall6 {args : List AV} (hargs : args.length ≤ 113) {H0 : AHeap} (lo : Nat) (hlo : H0.length ≤ lo) {r0 : AV} {H0' : AHeap}
    (h : lavc Tryd.prog glob lc6 (args ++ List.replicate (113 - args.length) (.v undef)) H0 fun e t H => (e = .normal ∨ e = .ret) ∧ aret Tryd.prog t H [Go.ResultVar.tmp 6] fun r => Fin lo H r r0 H0') :
    ACall Tryd.prog glob (H0.length == 0) 6 args H0 r0 H0' := LCall' ctx Tryd.func6 (by kernel_rfl) ls6 (by kernel_rfl) (by kernel_rfl) hargs lo hlo h
theorem lcallk6 {args : List AV} (hargs : args.length ≤ 113) {H0 : AHeap} {r0 : AV} {H0' : AHeap}
    (h : lavc Tryd.prog glob lc6 (args ++ List.replicate (113 - args.length) (.v undef)) H0 fun e t H => (e = .normal ∨ e = .ret) ∧ aret Tryd.prog t H [Go.ResultVar.tmp 6] fun r => r = r0 ∧ H = H0') :
    ACall Tryd.prog glob false 6 args H0 r0 H0' := LCallK' ctx Tryd.func6 (by kernel_rfl) ls6 (by kernel_rfl) (by kernel_rfl) hargs h
/-- escutcheon/escutcheonlaw21.HourOrders -/
def lc7 : LCode := .seq (.reg []
  [⟨some 4, Go.Op.assign (Go.Operand.const (Go.Value.bool false)), none⟩]) (.seq (.seq (.reg []
  [⟨some 11, Go.Op.call { callee := Go.Callee.value (Go.Operand.func 10), args := #[], argTypes := #[] }, none⟩,
  ⟨some 12, Go.Op.unOp Go.UnOp.not 4 (Go.Operand.tmp 11), none⟩]) (.cond (Go.Operand.tmp 12) (.seq (.reg []
  [⟨some 4, Go.Op.assign (Go.Operand.const (Go.Value.bool false)), none⟩]) (.ret)) (.skip))) (.seq (.reg []
  [⟨some 14, Go.Op.move (Go.Operand.tmp 0), none⟩,
  ⟨some 15, Go.Op.call { callee := Go.Callee.value (Go.Operand.func 13), args := #[Go.Operand.tmp 14], argTypes := #[3] }, none⟩,
  ⟨some 13, Go.Op.move (Go.Operand.tmp 15), none⟩,
  ⟨some 16, Go.Op.extract (Go.Operand.tmp 13) 0, none⟩,
  ⟨some 17, Go.Op.extract (Go.Operand.tmp 13) 1, none⟩,
  ⟨some 5, Go.Op.assign (Go.Operand.tmp 16), none⟩,
  ⟨some 6, Go.Op.assign (Go.Operand.tmp 17), none⟩]) (.seq (.reg []
  [⟨some 19, Go.Op.move (Go.Operand.tmp 1), none⟩,
  ⟨some 20, Go.Op.call { callee := Go.Callee.value (Go.Operand.func 13), args := #[Go.Operand.tmp 19], argTypes := #[3] }, none⟩,
  ⟨some 18, Go.Op.move (Go.Operand.tmp 20), none⟩,
  ⟨some 21, Go.Op.extract (Go.Operand.tmp 18) 0, none⟩,
  ⟨some 22, Go.Op.extract (Go.Operand.tmp 18) 1, none⟩,
  ⟨some 7, Go.Op.assign (Go.Operand.tmp 21), none⟩,
  ⟨some 8, Go.Op.assign (Go.Operand.tmp 22), none⟩]) (.seq (.seq (.reg []
  [⟨some 23, Go.Op.move (Go.Operand.tmp 6), none⟩,
  ⟨some 24, Go.Op.binOp Go.BinOp.neq 23 (Go.Operand.tmp 23) (Go.Operand.const (Go.Value.int Go.IntKind.i64 0)) 23, none⟩,
  ⟨some 25, Go.Op.move (Go.Operand.tmp 24), none⟩,
  ⟨some 26, Go.Op.move (Go.Operand.tmp 8), (some (25, false))⟩,
  ⟨some 27, Go.Op.binOp Go.BinOp.neq 23 (Go.Operand.tmp 26) (Go.Operand.const (Go.Value.int Go.IntKind.i64 0)) 23, (some (25, false))⟩,
  ⟨some 28, Go.Op.pick (Go.Operand.tmp 25) (Go.Operand.const (Go.Value.bool true)) (Go.Operand.tmp 27), none⟩]) (.cond (Go.Operand.tmp 28) (.seq (.reg []
  [⟨some 4, Go.Op.assign (Go.Operand.const (Go.Value.bool true)), none⟩]) (.ret)) (.skip))) (.seq (.seq (.reg []
  [⟨some 29, Go.Op.move (Go.Operand.tmp 0), none⟩,
  ⟨some 30, Go.Op.move (Go.Operand.tmp 1), none⟩,
  ⟨some 31, Go.Op.binOp Go.BinOp.lss 3 (Go.Operand.tmp 29) (Go.Operand.tmp 30) 3, none⟩,
  ⟨some 32, Go.Op.move (Go.Operand.tmp 5), none⟩,
  ⟨some 33, Go.Op.move (Go.Operand.tmp 7), none⟩,
  ⟨some 34, Go.Op.binOp Go.BinOp.lss 9 (Go.Operand.tmp 32) (Go.Operand.tmp 33) 9, none⟩,
  ⟨some 35, Go.Op.binOp Go.BinOp.neq 4 (Go.Operand.tmp 31) (Go.Operand.tmp 34) 4, none⟩,
  ⟨some 36, Go.Op.move (Go.Operand.tmp 35), none⟩,
  ⟨some 37, Go.Op.move (Go.Operand.tmp 0), (some (36, false))⟩,
  ⟨some 38, Go.Op.move (Go.Operand.tmp 1), (some (36, false))⟩,
  ⟨some 39, Go.Op.binOp Go.BinOp.eql 3 (Go.Operand.tmp 37) (Go.Operand.tmp 38) 3, (some (36, false))⟩,
  ⟨some 40, Go.Op.move (Go.Operand.tmp 5), (some (36, false))⟩,
  ⟨some 41, Go.Op.move (Go.Operand.tmp 7), (some (36, false))⟩,
  ⟨some 42, Go.Op.binOp Go.BinOp.eql 9 (Go.Operand.tmp 40) (Go.Operand.tmp 41) 9, (some (36, false))⟩,
  ⟨some 43, Go.Op.binOp Go.BinOp.neq 4 (Go.Operand.tmp 39) (Go.Operand.tmp 42) 4, (some (36, false))⟩,
  ⟨some 44, Go.Op.pick (Go.Operand.tmp 36) (Go.Operand.const (Go.Value.bool true)) (Go.Operand.tmp 43), none⟩]) (.cond (Go.Operand.tmp 44) (.seq (.reg []
  [⟨some 4, Go.Op.assign (Go.Operand.const (Go.Value.bool false)), none⟩]) (.ret)) (.skip))) (.seq (.reg []
  [⟨some 46, Go.Op.move (Go.Operand.tmp 0), none⟩,
  ⟨some 47, Go.Op.binOp Go.BinOp.add 3 (Go.Operand.tmp 46) (Go.Operand.const (Go.Value.int Go.IntKind.i64 86400)) 3, none⟩,
  ⟨some 48, Go.Op.call { callee := Go.Callee.value (Go.Operand.func 13), args := #[Go.Operand.tmp 47], argTypes := #[3] }, none⟩,
  ⟨some 45, Go.Op.move (Go.Operand.tmp 48), none⟩,
  ⟨some 49, Go.Op.extract (Go.Operand.tmp 45) 0, none⟩,
  ⟨some 50, Go.Op.extract (Go.Operand.tmp 45) 1, none⟩,
  ⟨some 9, Go.Op.assign (Go.Operand.tmp 49), none⟩,
  ⟨some 10, Go.Op.assign (Go.Operand.tmp 50), none⟩]) (.seq (.reg [⟨some 51, Go.Op.move (Go.Operand.tmp 10), none⟩,
  ⟨some 52, Go.Op.binOp Go.BinOp.neq 23 (Go.Operand.tmp 51) (Go.Operand.const (Go.Value.int Go.IntKind.i64 0)) 23, none⟩,
  ⟨some 53, Go.Op.move (Go.Operand.tmp 52), none⟩,
  ⟨some 54, Go.Op.move (Go.Operand.tmp 9), (some (53, false))⟩,
  ⟨some 55, Go.Op.slice 9 (Go.Operand.tmp 54) (some (Go.Operand.const (Go.Value.int Go.IntKind.i64 10))) none none, (some (53, false))⟩,
  ⟨some 56, Go.Op.move (Go.Operand.tmp 5), (some (53, false))⟩,
  ⟨some 57, Go.Op.slice 9 (Go.Operand.tmp 56) (some (Go.Operand.const (Go.Value.int Go.IntKind.i64 10))) none none, (some (53, false))⟩,
  ⟨some 58, Go.Op.binOp Go.BinOp.eql 9 (Go.Operand.tmp 55) (Go.Operand.tmp 57) 9, (some (53, false))⟩,
  ⟨some 59, Go.Op.move (Go.Operand.tmp 58), (some (53, false))⟩,
  ⟨some 60, Go.Op.move (Go.Operand.tmp 9), (some (59, true))⟩,
  ⟨some 61, Go.Op.move (Go.Operand.tmp 5), (some (59, true))⟩,
  ⟨some 62, Go.Op.binOp Go.BinOp.gtr 9 (Go.Operand.tmp 60) (Go.Operand.tmp 61) 9, (some (59, true))⟩,
  ⟨some 63, Go.Op.pick (Go.Operand.tmp 59) (Go.Operand.tmp 62) (Go.Operand.const (Go.Value.bool false)), (some (53, false))⟩,
  ⟨some 64, Go.Op.pick (Go.Operand.tmp 53) (Go.Operand.const (Go.Value.bool true)) (Go.Operand.tmp 63), none⟩,
  ⟨some 4, Go.Op.assign (Go.Operand.tmp 64), none⟩]
  []) (.ret))))))))
def mj7_0 : List Nat := [2, 3, 4, 11, 12]
def mj7_1 : List Nat := [2, 3, 4, 6, 8, 11, 12, 13, 14, 15, 16, 17, 18, 19, 20, 21, 22, 23, 24, 25, 26, 27, 28]
def mj7_2 : List Nat := [1, 2, 3, 4, 6, 7, 8, 11, 12, 13, 14, 15, 16, 17, 18, 19, 20, 21, 22, 23, 24, 25, 26, 27, 28, 29, 30, 31, 32, 33, 34, 35, 36, 37, 38, 39, 40, 41, 42, 43, 44]
theorem ls7 : Tryd.f7.body.map (strip Tryd.prog impCodL) = some lc7 := by kernel_rfl
theorem lcall7 {args : List AV} (hargs : args.length ≤ 65) {H0 : AHeap} (lo : Nat) (hlo : H0.length ≤ lo) {r0 : AV} {H0' : AHeap}
    (h : lavc Tryd.prog glob lc7 (args ++ List.replicate (65 - args.length) (.v undef)) H0 fun e t H => (e = .normal ∨ e = .ret) ∧ aret Tryd.prog t H [Go.ResultVar.tmp 4] fun r => Fin lo H r r0 H0') :
    ACall Tryd.prog glob (H0.length == 0) 7 args H0 r0 H0' := LCall' ctx Tryd.func7 (by kernel_rfl) ls7 (by kernel_rfl) (by kernel_rfl) hargs lo hlo h
theorem lcallk7 {args : List AV} (hargs : args.length ≤ 65) {H0 : AHeap} {r0 : AV} {H0' : AHeap}
    (h : lavc Tryd.prog glob lc7 (args ++ List.replicate (65 - args.length) (.v undef)) H0 fun e t H => (e = .normal ∨ e = .ret) ∧ aret Tryd.prog t H [Go.ResultVar.tmp 4] fun r => r = r0 ∧ H = H0') :
    ACall Tryd.prog glob false 7 args H0 r0 H0' := LCallK' ctx Tryd.func7 (by kernel_rfl) ls7 (by kernel_rfl) (by kernel_rfl) hargs h
/-- escutcheon/escutcheonlaw21.HourYears -/
def lc8 : LCode := .seq (.reg []
  [⟨some 2, Go.Op.assign (Go.Operand.const (Go.Value.bool false)), none⟩]) (.seq (.seq (.reg []
  [⟨some 10, Go.Op.call { callee := Go.Callee.value (Go.Operand.func 10), args := #[], argTypes := #[] }, none⟩,
  ⟨some 11, Go.Op.unOp Go.UnOp.not 4 (Go.Operand.tmp 10), none⟩,
  ⟨some 12, Go.Op.move (Go.Operand.tmp 11), none⟩,
  ⟨some 13, Go.Op.move (Go.Operand.tmp 0), (some (12, false))⟩,
  ⟨some 14, Go.Op.binOp Go.BinOp.lss 3 (Go.Operand.tmp 13) (Go.Operand.const (Go.Value.int Go.IntKind.i64 0)) 3, (some (12, false))⟩,
  ⟨some 15, Go.Op.pick (Go.Operand.tmp 12) (Go.Operand.const (Go.Value.bool true)) (Go.Operand.tmp 14), none⟩,
  ⟨some 16, Go.Op.move (Go.Operand.tmp 15), none⟩,
  ⟨some 17, Go.Op.move (Go.Operand.tmp 0), (some (16, false))⟩,
  ⟨some 18, Go.Op.binOp Go.BinOp.gtr 3 (Go.Operand.tmp 17) (Go.Operand.const (Go.Value.int Go.IntKind.i64 9998)) 3, (some (16, false))⟩,
  ⟨some 19, Go.Op.pick (Go.Operand.tmp 16) (Go.Operand.const (Go.Value.bool true)) (Go.Operand.tmp 18), none⟩]) (.cond (Go.Operand.tmp 19) (.seq (.reg []
  [⟨some 20, Go.Op.call { callee := Go.Callee.value (Go.Operand.func 10), args := #[], argTypes := #[] }, none⟩,
  ⟨some 2, Go.Op.assign (Go.Operand.tmp 20), none⟩]) (.ret)) (.skip))) (.seq (.reg []
  [⟨some 3, Go.Op.assign (Go.Operand.const (Go.Value.int Go.IntKind.i64 0)), none⟩]) (.seq (.seq (.reg []
  [⟨some 4, Go.Op.assign (Go.Operand.const (Go.Value.int Go.IntKind.i64 1)), none⟩]) (.block 0 (.loop (.seq (.seq (.reg []
  [⟨some 21, Go.Op.move (Go.Operand.tmp 4), none⟩,
  ⟨some 22, Go.Op.binOp Go.BinOp.leq 3 (Go.Operand.tmp 21) (Go.Operand.const (Go.Value.int Go.IntKind.i64 12)) 3, none⟩]) (.cond (Go.Operand.tmp 22) (.skip) (.exit 0))) (.seq (.block 1 (.reg []
  [⟨some 25, Go.Op.move (Go.Operand.tmp 3), none⟩,
  ⟨some 26, Go.Op.move (Go.Operand.tmp 0), none⟩,
  ⟨some 27, Go.Op.move (Go.Operand.tmp 4), none⟩,
  ⟨some 28, Go.Op.call { callee := Go.Callee.value (Go.Operand.func 17), args := #[Go.Operand.tmp 26, Go.Operand.tmp 27], argTypes := #[3, 3] }, none⟩,
  ⟨some 29, Go.Op.binOp Go.BinOp.add 3 (Go.Operand.tmp 25) (Go.Operand.tmp 28) 3, none⟩,
  ⟨some 3, Go.Op.assign (Go.Operand.tmp 29), none⟩])) (.reg []
  [⟨some 23, Go.Op.move (Go.Operand.tmp 4), none⟩,
  ⟨some 24, Go.Op.binOp Go.BinOp.add 3 (Go.Operand.tmp 23) (Go.Operand.const (Go.Value.int Go.IntKind.i64 1)) 3, none⟩,
  ⟨some 4, Go.Op.assign (Go.Operand.tmp 24), none⟩])))))) (.seq (.reg []
  [⟨some 30, Go.Op.move (Go.Operand.tmp 0), none⟩,
  ⟨some 31, Go.Op.call { callee := Go.Callee.value (Go.Operand.func 18), args := #[Go.Operand.tmp 30, Go.Operand.const (Go.Value.int Go.IntKind.i64 1), Go.Operand.const (Go.Value.int Go.IntKind.i64 1), Go.Operand.const (Go.Value.int Go.IntKind.i64 0), Go.Operand.const (Go.Value.int Go.IntKind.i64 0), Go.Operand.const (Go.Value.int Go.IntKind.i64 0)], argTypes := #[3, 3, 3, 3, 3, 3] }, none⟩,
  ⟨some 5, Go.Op.assign (Go.Operand.tmp 31), none⟩]) (.seq (.reg []
  [⟨some 33, Go.Op.move (Go.Operand.tmp 5), none⟩,
  ⟨some 34, Go.Op.call { callee := Go.Callee.value (Go.Operand.func 13), args := #[Go.Operand.tmp 33], argTypes := #[3] }, none⟩,
  ⟨some 32, Go.Op.move (Go.Operand.tmp 34), none⟩,
  ⟨some 35, Go.Op.extract (Go.Operand.tmp 32) 0, none⟩,
  ⟨some 36, Go.Op.extract (Go.Operand.tmp 32) 1, none⟩,
  ⟨some 6, Go.Op.assign (Go.Operand.tmp 35), none⟩,
  ⟨some 7, Go.Op.assign (Go.Operand.tmp 36), none⟩]) (.seq (.reg []
  [⟨some 38, Go.Op.move (Go.Operand.tmp 5), none⟩,
  ⟨some 39, Go.Op.move (Go.Operand.tmp 3), none⟩,
  ⟨some 40, Go.Op.binOp Go.BinOp.mul 3 (Go.Operand.tmp 39) (Go.Operand.const (Go.Value.int Go.IntKind.i64 86400)) 3, none⟩,
  ⟨some 41, Go.Op.binOp Go.BinOp.add 3 (Go.Operand.tmp 38) (Go.Operand.tmp 40) 3, none⟩,
  ⟨some 42, Go.Op.call { callee := Go.Callee.value (Go.Operand.func 13), args := #[Go.Operand.tmp 41], argTypes := #[3] }, none⟩,
  ⟨some 37, Go.Op.move (Go.Operand.tmp 42), none⟩,
  ⟨some 43, Go.Op.extract (Go.Operand.tmp 37) 0, none⟩,
  ⟨some 44, Go.Op.extract (Go.Operand.tmp 37) 1, none⟩,
  ⟨some 8, Go.Op.assign (Go.Operand.tmp 43), none⟩,
  ⟨some 9, Go.Op.assign (Go.Operand.tmp 44), none⟩]) (.seq (.reg []
  [⟨some 45, Go.Op.move (Go.Operand.tmp 3), none⟩,
  ⟨some 46, Go.Op.binOp Go.BinOp.eql 3 (Go.Operand.tmp 45) (Go.Operand.const (Go.Value.int Go.IntKind.i64 365)) 3, none⟩,
  ⟨some 47, Go.Op.move (Go.Operand.tmp 46), none⟩,
  ⟨some 48, Go.Op.move (Go.Operand.tmp 3), (some (47, false))⟩,
  ⟨some 49, Go.Op.binOp Go.BinOp.eql 3 (Go.Operand.tmp 48) (Go.Operand.const (Go.Value.int Go.IntKind.i64 366)) 3, (some (47, false))⟩,
  ⟨some 50, Go.Op.pick (Go.Operand.tmp 47) (Go.Operand.const (Go.Value.bool true)) (Go.Operand.tmp 49), none⟩,
  ⟨some 51, Go.Op.move (Go.Operand.tmp 50), none⟩,
  ⟨some 52, Go.Op.move (Go.Operand.tmp 7), (some (51, true))⟩,
  ⟨some 53, Go.Op.binOp Go.BinOp.eql 23 (Go.Operand.tmp 52) (Go.Operand.const (Go.Value.int Go.IntKind.i64 0)) 23, (some (51, true))⟩,
  ⟨some 54, Go.Op.pick (Go.Operand.tmp 51) (Go.Operand.tmp 53) (Go.Operand.const (Go.Value.bool false)), none⟩,
  ⟨some 55, Go.Op.move (Go.Operand.tmp 54), none⟩,
  ⟨some 56, Go.Op.move (Go.Operand.tmp 9), (some (55, true))⟩,
  ⟨some 57, Go.Op.binOp Go.BinOp.eql 23 (Go.Operand.tmp 56) (Go.Operand.const (Go.Value.int Go.IntKind.i64 0)) 23, (some (55, true))⟩,
  ⟨some 58, Go.Op.pick (Go.Operand.tmp 55) (Go.Operand.tmp 57) (Go.Operand.const (Go.Value.bool false)), none⟩,
  ⟨some 59, Go.Op.move (Go.Operand.tmp 58), none⟩,
  ⟨some 60, Go.Op.move (Go.Operand.tmp 6), (some (59, true))⟩,
  ⟨some 61, Go.Op.slice 9 (Go.Operand.tmp 60) (some (Go.Operand.const (Go.Value.int Go.IntKind.i64 4))) none none, (some (59, true))⟩,
  ⟨some 62, Go.Op.binOp Go.BinOp.eql 9 (Go.Operand.tmp 61) (Go.Operand.const (Go.Value.string { data := #[45, 48, 49, 45, 48, 49, 84, 48, 48, 58, 48, 48, 58, 48, 48, 90] })) 9, (some (59, true))⟩,
  ⟨some 63, Go.Op.pick (Go.Operand.tmp 59) (Go.Operand.tmp 62) (Go.Operand.const (Go.Value.bool false)), none⟩,
  ⟨some 64, Go.Op.move (Go.Operand.tmp 63), none⟩,
  ⟨some 65, Go.Op.move (Go.Operand.tmp 8), (some (64, true))⟩,
  ⟨some 66, Go.Op.slice 9 (Go.Operand.tmp 65) (some (Go.Operand.const (Go.Value.int Go.IntKind.i64 4))) none none, (some (64, true))⟩,
  ⟨some 67, Go.Op.binOp Go.BinOp.eql 9 (Go.Operand.tmp 66) (Go.Operand.const (Go.Value.string { data := #[45, 48, 49, 45, 48, 49, 84, 48, 48, 58, 48, 48, 58, 48, 48, 90] })) 9, (some (64, true))⟩,
  ⟨some 68, Go.Op.pick (Go.Operand.tmp 64) (Go.Operand.tmp 67) (Go.Operand.const (Go.Value.bool false)), none⟩,
  ⟨some 69, Go.Op.move (Go.Operand.tmp 68), none⟩,
  ⟨some 70, Go.Op.move (Go.Operand.tmp 0), (some (69, true))⟩,
  ⟨some 71, Go.Op.call { callee := Go.Callee.value (Go.Operand.func 17), args := #[Go.Operand.tmp 70, Go.Operand.const (Go.Value.int Go.IntKind.i64 0)], argTypes := #[3, 3] }, (some (69, true))⟩,
  ⟨some 72, Go.Op.binOp Go.BinOp.eql 3 (Go.Operand.tmp 71) (Go.Operand.const (Go.Value.int Go.IntKind.i64 0)) 3, (some (69, true))⟩,
  ⟨some 73, Go.Op.pick (Go.Operand.tmp 69) (Go.Operand.tmp 72) (Go.Operand.const (Go.Value.bool false)), none⟩,
  ⟨some 74, Go.Op.move (Go.Operand.tmp 73), none⟩,
  ⟨some 75, Go.Op.move (Go.Operand.tmp 0), (some (74, true))⟩,
  ⟨some 76, Go.Op.call { callee := Go.Callee.value (Go.Operand.func 17), args := #[Go.Operand.tmp 75, Go.Operand.const (Go.Value.int Go.IntKind.i64 13)], argTypes := #[3, 3] }, (some (74, true))⟩,
  ⟨some 77, Go.Op.binOp Go.BinOp.eql 3 (Go.Operand.tmp 76) (Go.Operand.const (Go.Value.int Go.IntKind.i64 0)) 3, (some (74, true))⟩,
  ⟨some 78, Go.Op.pick (Go.Operand.tmp 74) (Go.Operand.tmp 77) (Go.Operand.const (Go.Value.bool false)), none⟩,
  ⟨some 2, Go.Op.assign (Go.Operand.tmp 78), none⟩]) (.ret))))))))
def ms8_0 : List Nat := [1, 3, 4, 10, 11, 12, 13, 14, 15, 16, 17, 18, 19, 20, 21, 22, 23, 24, 25, 26, 27, 28, 29]
def mj8_0 : List Nat := [1, 2, 10, 11, 12, 13, 14, 15, 16, 17, 18, 19, 20]
def mj8_1 : List Nat := [1, 10, 11, 12, 13, 14, 15, 16, 17, 18, 19, 20]
theorem ls8 : Tryd.f8.body.map (strip Tryd.prog impCodL) = some lc8 := by kernel_rfl
theorem lcall8 {args : List AV} (hargs : args.length ≤ 79) {H0 : AHeap} (lo : Nat) (hlo : H0.length ≤ lo) {r0 : AV} {H0' : AHeap}
    (h : lavc Tryd.prog glob lc8 (args ++ List.replicate (79 - args.length) (.v undef)) H0 fun e t H => (e = .normal ∨ e = .ret) ∧ aret Tryd.prog t H [Go.ResultVar.tmp 2] fun r => Fin lo H r r0 H0') :
    ACall Tryd.prog glob (H0.length == 0) 8 args H0 r0 H0' := LCall' ctx Tryd.func8 (by kernel_rfl) ls8 (by kernel_rfl) (by kernel_rfl) hargs lo hlo h
theorem lcallk8 {args : List AV} (hargs : args.length ≤ 79) {H0 : AHeap} {r0 : AV} {H0' : AHeap}
    (h : lavc Tryd.prog glob lc8 (args ++ List.replicate (79 - args.length) (.v undef)) H0 fun e t H => (e = .normal ∨ e = .ret) ∧ aret Tryd.prog t H [Go.ResultVar.tmp 2] fun r => r = r0 ∧ H = H0') :
    ACall Tryd.prog glob false 8 args H0 r0 H0' := LCallK' ctx Tryd.func8 (by kernel_rfl) ls8 (by kernel_rfl) (by kernel_rfl) hargs h
/-- escutcheon/escutcheonlaw21.HourSteps -/
def lc9 : LCode := .seq (.reg []
  [⟨some 2, Go.Op.assign (Go.Operand.const (Go.Value.bool false)), none⟩]) (.seq (.seq (.reg []
  [⟨some 11, Go.Op.call { callee := Go.Callee.value (Go.Operand.func 10), args := #[], argTypes := #[] }, none⟩,
  ⟨some 12, Go.Op.unOp Go.UnOp.not 4 (Go.Operand.tmp 11), none⟩,
  ⟨some 13, Go.Op.move (Go.Operand.tmp 12), none⟩,
  ⟨some 14, Go.Op.move (Go.Operand.tmp 0), (some (13, false))⟩,
  ⟨some 15, Go.Op.call { callee := Go.Callee.value (Go.Operand.func 14), args := #[], argTypes := #[] }, (some (13, false))⟩,
  ⟨some 16, Go.Op.binOp Go.BinOp.lss 3 (Go.Operand.tmp 14) (Go.Operand.tmp 15) 3, (some (13, false))⟩,
  ⟨some 17, Go.Op.pick (Go.Operand.tmp 13) (Go.Operand.const (Go.Value.bool true)) (Go.Operand.tmp 16), none⟩,
  ⟨some 18, Go.Op.move (Go.Operand.tmp 17), none⟩,
  ⟨some 19, Go.Op.move (Go.Operand.tmp 0), (some (18, false))⟩,
  ⟨some 20, Go.Op.call { callee := Go.Callee.value (Go.Operand.func 15), args := #[], argTypes := #[] }, (some (18, false))⟩,
  ⟨some 21, Go.Op.binOp Go.BinOp.sub 3 (Go.Operand.tmp 20) (Go.Operand.const (Go.Value.int Go.IntKind.i64 3600)) 3, (some (18, false))⟩,
  ⟨some 22, Go.Op.binOp Go.BinOp.gtr 3 (Go.Operand.tmp 19) (Go.Operand.tmp 21) 3, (some (18, false))⟩,
  ⟨some 23, Go.Op.pick (Go.Operand.tmp 18) (Go.Operand.const (Go.Value.bool true)) (Go.Operand.tmp 22), none⟩]) (.cond (Go.Operand.tmp 23) (.seq (.reg []
  [⟨some 24, Go.Op.call { callee := Go.Callee.value (Go.Operand.func 10), args := #[], argTypes := #[] }, none⟩,
  ⟨some 2, Go.Op.assign (Go.Operand.tmp 24), none⟩]) (.ret)) (.skip))) (.seq (.reg []
  [⟨some 26, Go.Op.move (Go.Operand.tmp 0), none⟩,
  ⟨some 27, Go.Op.call { callee := Go.Callee.value (Go.Operand.func 13), args := #[Go.Operand.tmp 26], argTypes := #[3] }, none⟩,
  ⟨some 25, Go.Op.move (Go.Operand.tmp 27), none⟩,
  ⟨some 28, Go.Op.extract (Go.Operand.tmp 25) 0, none⟩,
  ⟨some 29, Go.Op.extract (Go.Operand.tmp 25) 1, none⟩,
  ⟨some 3, Go.Op.assign (Go.Operand.tmp 28), none⟩,
  ⟨some 4, Go.Op.assign (Go.Operand.tmp 29), none⟩]) (.seq (.reg []
  [⟨some 31, Go.Op.move (Go.Operand.tmp 0), none⟩,
  ⟨some 32, Go.Op.binOp Go.BinOp.add 3 (Go.Operand.tmp 31) (Go.Operand.const (Go.Value.int Go.IntKind.i64 1)) 3, none⟩,
  ⟨some 33, Go.Op.call { callee := Go.Callee.value (Go.Operand.func 13), args := #[Go.Operand.tmp 32], argTypes := #[3] }, none⟩,
  ⟨some 30, Go.Op.move (Go.Operand.tmp 33), none⟩,
  ⟨some 34, Go.Op.extract (Go.Operand.tmp 30) 0, none⟩,
  ⟨some 35, Go.Op.extract (Go.Operand.tmp 30) 1, none⟩,
  ⟨some 5, Go.Op.assign (Go.Operand.tmp 34), none⟩,
  ⟨some 6, Go.Op.assign (Go.Operand.tmp 35), none⟩]) (.seq (.reg []
  [⟨some 37, Go.Op.move (Go.Operand.tmp 0), none⟩,
  ⟨some 38, Go.Op.binOp Go.BinOp.add 3 (Go.Operand.tmp 37) (Go.Operand.const (Go.Value.int Go.IntKind.i64 60)) 3, none⟩,
  ⟨some 39, Go.Op.call { callee := Go.Callee.value (Go.Operand.func 13), args := #[Go.Operand.tmp 38], argTypes := #[3] }, none⟩,
  ⟨some 36, Go.Op.move (Go.Operand.tmp 39), none⟩,
  ⟨some 40, Go.Op.extract (Go.Operand.tmp 36) 0, none⟩,
  ⟨some 41, Go.Op.extract (Go.Operand.tmp 36) 1, none⟩,
  ⟨some 7, Go.Op.assign (Go.Operand.tmp 40), none⟩,
  ⟨some 8, Go.Op.assign (Go.Operand.tmp 41), none⟩]) (.seq (.reg []
  [⟨some 43, Go.Op.move (Go.Operand.tmp 0), none⟩,
  ⟨some 44, Go.Op.binOp Go.BinOp.add 3 (Go.Operand.tmp 43) (Go.Operand.const (Go.Value.int Go.IntKind.i64 3600)) 3, none⟩,
  ⟨some 45, Go.Op.call { callee := Go.Callee.value (Go.Operand.func 13), args := #[Go.Operand.tmp 44], argTypes := #[3] }, none⟩,
  ⟨some 42, Go.Op.move (Go.Operand.tmp 45), none⟩,
  ⟨some 46, Go.Op.extract (Go.Operand.tmp 42) 0, none⟩,
  ⟨some 47, Go.Op.extract (Go.Operand.tmp 42) 1, none⟩,
  ⟨some 9, Go.Op.assign (Go.Operand.tmp 46), none⟩,
  ⟨some 10, Go.Op.assign (Go.Operand.tmp 47), none⟩]) (.seq (.reg [⟨some 48, Go.Op.move (Go.Operand.tmp 4), none⟩,
  ⟨some 49, Go.Op.binOp Go.BinOp.eql 23 (Go.Operand.tmp 48) (Go.Operand.const (Go.Value.int Go.IntKind.i64 0)) 23, none⟩,
  ⟨some 50, Go.Op.move (Go.Operand.tmp 49), none⟩,
  ⟨some 51, Go.Op.move (Go.Operand.tmp 6), (some (50, true))⟩,
  ⟨some 52, Go.Op.binOp Go.BinOp.eql 23 (Go.Operand.tmp 51) (Go.Operand.const (Go.Value.int Go.IntKind.i64 0)) 23, (some (50, true))⟩,
  ⟨some 53, Go.Op.pick (Go.Operand.tmp 50) (Go.Operand.tmp 52) (Go.Operand.const (Go.Value.bool false)), none⟩,
  ⟨some 54, Go.Op.move (Go.Operand.tmp 53), none⟩,
  ⟨some 55, Go.Op.move (Go.Operand.tmp 8), (some (54, true))⟩,
  ⟨some 56, Go.Op.binOp Go.BinOp.eql 23 (Go.Operand.tmp 55) (Go.Operand.const (Go.Value.int Go.IntKind.i64 0)) 23, (some (54, true))⟩,
  ⟨some 57, Go.Op.pick (Go.Operand.tmp 54) (Go.Operand.tmp 56) (Go.Operand.const (Go.Value.bool false)), none⟩,
  ⟨some 58, Go.Op.move (Go.Operand.tmp 57), none⟩,
  ⟨some 59, Go.Op.move (Go.Operand.tmp 10), (some (58, true))⟩,
  ⟨some 60, Go.Op.binOp Go.BinOp.eql 23 (Go.Operand.tmp 59) (Go.Operand.const (Go.Value.int Go.IntKind.i64 0)) 23, (some (58, true))⟩,
  ⟨some 61, Go.Op.pick (Go.Operand.tmp 58) (Go.Operand.tmp 60) (Go.Operand.const (Go.Value.bool false)), none⟩,
  ⟨some 62, Go.Op.move (Go.Operand.tmp 61), none⟩,
  ⟨some 63, Go.Op.move (Go.Operand.tmp 5), (some (62, true))⟩,
  ⟨some 64, Go.Op.move (Go.Operand.tmp 3), (some (62, true))⟩,
  ⟨some 65, Go.Op.binOp Go.BinOp.gtr 9 (Go.Operand.tmp 63) (Go.Operand.tmp 64) 9, (some (62, true))⟩,
  ⟨some 66, Go.Op.pick (Go.Operand.tmp 62) (Go.Operand.tmp 65) (Go.Operand.const (Go.Value.bool false)), none⟩,
  ⟨some 67, Go.Op.move (Go.Operand.tmp 66), none⟩,
  ⟨some 68, Go.Op.move (Go.Operand.tmp 7), (some (67, true))⟩,
  ⟨some 69, Go.Op.slice 9 (Go.Operand.tmp 68) (some (Go.Operand.const (Go.Value.int Go.IntKind.i64 17))) none none, (some (67, true))⟩,
  ⟨some 70, Go.Op.move (Go.Operand.tmp 3), (some (67, true))⟩,
  ⟨some 71, Go.Op.slice 9 (Go.Operand.tmp 70) (some (Go.Operand.const (Go.Value.int Go.IntKind.i64 17))) none none, (some (67, true))⟩,
  ⟨some 72, Go.Op.binOp Go.BinOp.eql 9 (Go.Operand.tmp 69) (Go.Operand.tmp 71) 9, (some (67, true))⟩,
  ⟨some 73, Go.Op.pick (Go.Operand.tmp 67) (Go.Operand.tmp 72) (Go.Operand.const (Go.Value.bool false)), none⟩,
  ⟨some 74, Go.Op.move (Go.Operand.tmp 73), none⟩,
  ⟨some 75, Go.Op.move (Go.Operand.tmp 7), (some (74, true))⟩,
  ⟨some 76, Go.Op.move (Go.Operand.tmp 5), (some (74, true))⟩,
  ⟨some 77, Go.Op.binOp Go.BinOp.gtr 9 (Go.Operand.tmp 75) (Go.Operand.tmp 76) 9, (some (74, true))⟩,
  ⟨some 78, Go.Op.pick (Go.Operand.tmp 74) (Go.Operand.tmp 77) (Go.Operand.const (Go.Value.bool false)), none⟩,
  ⟨some 79, Go.Op.move (Go.Operand.tmp 78), none⟩,
  ⟨some 80, Go.Op.move (Go.Operand.tmp 9), (some (79, true))⟩,
  ⟨some 81, Go.Op.slice 9 (Go.Operand.tmp 80) (some (Go.Operand.const (Go.Value.int Go.IntKind.i64 14))) none none, (some (79, true))⟩,
  ⟨some 82, Go.Op.move (Go.Operand.tmp 3), (some (79, true))⟩,
  ⟨some 83, Go.Op.slice 9 (Go.Operand.tmp 82) (some (Go.Operand.const (Go.Value.int Go.IntKind.i64 14))) none none, (some (79, true))⟩,
  ⟨some 84, Go.Op.binOp Go.BinOp.eql 9 (Go.Operand.tmp 81) (Go.Operand.tmp 83) 9, (some (79, true))⟩,
  ⟨some 85, Go.Op.pick (Go.Operand.tmp 79) (Go.Operand.tmp 84) (Go.Operand.const (Go.Value.bool false)), none⟩,
  ⟨some 86, Go.Op.move (Go.Operand.tmp 85), none⟩,
  ⟨some 87, Go.Op.move (Go.Operand.tmp 9), (some (86, true))⟩,
  ⟨some 88, Go.Op.move (Go.Operand.tmp 7), (some (86, true))⟩,
  ⟨some 89, Go.Op.binOp Go.BinOp.gtr 9 (Go.Operand.tmp 87) (Go.Operand.tmp 88) 9, (some (86, true))⟩,
  ⟨some 90, Go.Op.pick (Go.Operand.tmp 86) (Go.Operand.tmp 89) (Go.Operand.const (Go.Value.bool false)), none⟩,
  ⟨some 2, Go.Op.assign (Go.Operand.tmp 90), none⟩]
  []) (.ret)))))))
def mj9_0 : List Nat := [1, 2, 11, 12, 13, 14, 15, 16, 17, 18, 19, 20, 21, 22, 23, 24]
theorem ls9 : Tryd.f9.body.map (strip Tryd.prog impCodL) = some lc9 := by kernel_rfl
theorem lcall9 {args : List AV} (hargs : args.length ≤ 91) {H0 : AHeap} (lo : Nat) (hlo : H0.length ≤ lo) {r0 : AV} {H0' : AHeap}
    (h : lavc Tryd.prog glob lc9 (args ++ List.replicate (91 - args.length) (.v undef)) H0 fun e t H => (e = .normal ∨ e = .ret) ∧ aret Tryd.prog t H [Go.ResultVar.tmp 2] fun r => Fin lo H r r0 H0') :
    ACall Tryd.prog glob (H0.length == 0) 9 args H0 r0 H0' := LCall' ctx Tryd.func9 (by kernel_rfl) ls9 (by kernel_rfl) (by kernel_rfl) hargs lo hlo h
theorem lcallk9 {args : List AV} (hargs : args.length ≤ 91) {H0 : AHeap} {r0 : AV} {H0' : AHeap}
    (h : lavc Tryd.prog glob lc9 (args ++ List.replicate (91 - args.length) (.v undef)) H0 fun e t H => (e = .normal ∨ e = .ret) ∧ aret Tryd.prog t H [Go.ResultVar.tmp 2] fun r => r = r0 ∧ H = H0') :
    ACall Tryd.prog glob false 9 args H0 r0 H0' := LCallK' ctx Tryd.func9 (by kernel_rfl) ls9 (by kernel_rfl) (by kernel_rfl) hargs h
end Go.Abs.S
