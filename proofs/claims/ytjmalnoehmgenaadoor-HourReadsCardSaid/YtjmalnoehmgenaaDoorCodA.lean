/- Code, as it is looked at; written by wip/leancode.py. -/
import Derived.Test.YtjmalnoehmgenaaDoorAbsSeat
namespace Go.Abs.S
open Go.Proofs
set_option maxRecDepth 100000
def impCodA : FuncId → Bool := fun f => f == 26 || f == 28 || f == 36 || f == 62
/-- escutcheon/escutcheonlaw21.awake -/
def lc10 : LCode := .seq (.reg []
  [⟨some 0, Go.Op.assign (Go.Operand.const (Go.Value.bool false)), none⟩]) (.seq (.reg []
  [⟨some 6, Go.Op.call { callee := Go.Callee.value (Go.Operand.func 11), args := #[Go.Operand.const (Go.Value.string { data := #[49, 57, 55, 48, 45, 48, 49, 45, 48, 49, 84, 48, 49, 58, 48, 48, 58, 48, 48, 43, 48, 49, 58, 48, 48] })], argTypes := #[9] }, none⟩,
  ⟨some 5, Go.Op.move (Go.Operand.tmp 6), none⟩,
  ⟨some 7, Go.Op.extract (Go.Operand.tmp 5) 0, none⟩,
  ⟨some 8, Go.Op.extract (Go.Operand.tmp 5) 1, none⟩,
  ⟨some 1, Go.Op.assign (Go.Operand.tmp 7), none⟩,
  ⟨some 2, Go.Op.assign (Go.Operand.tmp 8), none⟩]) (.seq (.reg []
  [⟨some 10, Go.Op.call { callee := Go.Callee.value (Go.Operand.func 13), args := #[Go.Operand.const (Go.Value.int Go.IntKind.i64 0)], argTypes := #[3] }, none⟩,
  ⟨some 9, Go.Op.move (Go.Operand.tmp 10), none⟩,
  ⟨some 11, Go.Op.extract (Go.Operand.tmp 9) 0, none⟩,
  ⟨some 12, Go.Op.extract (Go.Operand.tmp 9) 1, none⟩,
  ⟨some 3, Go.Op.assign (Go.Operand.tmp 11), none⟩,
  ⟨some 4, Go.Op.assign (Go.Operand.tmp 12), none⟩]) (.seq (.reg []
  [⟨some 13, Go.Op.move (Go.Operand.tmp 1), none⟩,
  ⟨some 14, Go.Op.binOp Go.BinOp.eql 3 (Go.Operand.tmp 13) (Go.Operand.const (Go.Value.int Go.IntKind.i64 0)) 3, none⟩,
  ⟨some 15, Go.Op.move (Go.Operand.tmp 14), none⟩,
  ⟨some 16, Go.Op.move (Go.Operand.tmp 2), (some (15, true))⟩,
  ⟨some 17, Go.Op.binOp Go.BinOp.eql 23 (Go.Operand.tmp 16) (Go.Operand.const (Go.Value.int Go.IntKind.i64 0)) 23, (some (15, true))⟩,
  ⟨some 18, Go.Op.pick (Go.Operand.tmp 15) (Go.Operand.tmp 17) (Go.Operand.const (Go.Value.bool false)), none⟩,
  ⟨some 19, Go.Op.move (Go.Operand.tmp 18), none⟩,
  ⟨some 20, Go.Op.move (Go.Operand.tmp 3), (some (19, true))⟩,
  ⟨some 21, Go.Op.binOp Go.BinOp.eql 9 (Go.Operand.tmp 20) (Go.Operand.const (Go.Value.string { data := #[49, 57, 55, 48, 45, 48, 49, 45, 48, 49, 84, 48, 48, 58, 48, 48, 58, 48, 48, 90] })) 9, (some (19, true))⟩,
  ⟨some 22, Go.Op.pick (Go.Operand.tmp 19) (Go.Operand.tmp 21) (Go.Operand.const (Go.Value.bool false)), none⟩,
  ⟨some 23, Go.Op.move (Go.Operand.tmp 22), none⟩,
  ⟨some 24, Go.Op.move (Go.Operand.tmp 4), (some (23, true))⟩,
  ⟨some 25, Go.Op.binOp Go.BinOp.eql 23 (Go.Operand.tmp 24) (Go.Operand.const (Go.Value.int Go.IntKind.i64 0)) 23, (some (23, true))⟩,
  ⟨some 26, Go.Op.pick (Go.Operand.tmp 23) (Go.Operand.tmp 25) (Go.Operand.const (Go.Value.bool false)), none⟩,
  ⟨some 0, Go.Op.assign (Go.Operand.tmp 26), none⟩]) (.ret))))
theorem ls10 : Tryd.f10.body.map (strip Tryd.prog impCodA) = some lc10 := by kernel_rfl
theorem lcall10 {args : List AV} (hargs : args.length ≤ 27) {H0 : AHeap} (lo : Nat) (hlo : H0.length ≤ lo) {r0 : AV} {H0' : AHeap}
    (h : lavc Tryd.prog glob lc10 (args ++ List.replicate (27 - args.length) (.v undef)) H0 fun e t H => (e = .normal ∨ e = .ret) ∧ aret Tryd.prog t H [Go.ResultVar.tmp 0] fun r => Fin lo H r r0 H0') :
    ACall Tryd.prog glob (H0.length == 0) 10 args H0 r0 H0' := LCall' ctx Tryd.func10 (by kernel_rfl) ls10 (by kernel_rfl) (by kernel_rfl) hargs lo hlo h
theorem lcallk10 {args : List AV} (hargs : args.length ≤ 27) {H0 : AHeap} {r0 : AV} {H0' : AHeap}
    (h : lavc Tryd.prog glob lc10 (args ++ List.replicate (27 - args.length) (.v undef)) H0 fun e t H => (e = .normal ∨ e = .ret) ∧ aret Tryd.prog t H [Go.ResultVar.tmp 0] fun r => r = r0 ∧ H = H0') :
    ACall Tryd.prog glob false 10 args H0 r0 H0' := LCallK' ctx Tryd.func10 (by kernel_rfl) ls10 (by kernel_rfl) (by kernel_rfl) hargs h
/-- escutcheon/hour.Read -/
def lc11 : LCode := .seq (.reg []
  [⟨some 2, Go.Op.assign (Go.Operand.const (Go.Value.int Go.IntKind.i64 0)), none⟩,
  ⟨some 3, Go.Op.assign (Go.Operand.const (Go.Value.int Go.IntKind.i64 0)), none⟩]) (.seq (.reg [⟨some 10, Go.Op.move (Go.Operand.tmp 0), none⟩,
  ⟨some 11, Go.Op.move (Go.Operand.tmp 0), none⟩,
  ⟨some 12, Go.Op.call { callee := Go.Callee.builtin Go.Builtin.len, args := #[Go.Operand.tmp 11], argTypes := #[9] }, none⟩,
  ⟨some 13, Go.Op.call { callee := Go.Callee.builtin Go.Builtin.min, args := #[Go.Operand.tmp 12, Go.Operand.const (Go.Value.int Go.IntKind.i64 19)], argTypes := #[3, 3] }, none⟩,
  ⟨some 14, Go.Op.slice 9 (Go.Operand.tmp 10) none (some (Go.Operand.tmp 13)) none, none⟩,
  ⟨some 15, Go.Op.move (Go.Operand.tmp 0), none⟩,
  ⟨some 16, Go.Op.move (Go.Operand.tmp 0), none⟩,
  ⟨some 17, Go.Op.call { callee := Go.Callee.builtin Go.Builtin.len, args := #[Go.Operand.tmp 16], argTypes := #[9] }, none⟩,
  ⟨some 18, Go.Op.call { callee := Go.Callee.builtin Go.Builtin.min, args := #[Go.Operand.tmp 17, Go.Operand.const (Go.Value.int Go.IntKind.i64 19)], argTypes := #[3, 3] }, none⟩,
  ⟨some 19, Go.Op.slice 9 (Go.Operand.tmp 15) (some (Go.Operand.tmp 18)) none none, none⟩,
  ⟨some 4, Go.Op.assign (Go.Operand.tmp 14), none⟩,
  ⟨some 5, Go.Op.assign (Go.Operand.tmp 19), none⟩]
  []) (.seq (.seq (.reg []
  [⟨some 20, Go.Op.move (Go.Operand.tmp 4), none⟩,
  ⟨some 21, Go.Op.call { callee := Go.Callee.value (Go.Operand.func 19), args := #[Go.Operand.tmp 20, Go.Operand.const (Go.Value.string { data := #[100, 100, 100, 100, 45, 100, 100, 45, 100, 100, 84, 100, 100, 58, 100, 100, 58, 100, 100] })], argTypes := #[9, 9] }, none⟩,
  ⟨some 22, Go.Op.unOp Go.UnOp.not 4 (Go.Operand.tmp 21), none⟩,
  ⟨some 23, Go.Op.move (Go.Operand.tmp 22), none⟩,
  ⟨some 24, Go.Op.move (Go.Operand.tmp 5), (some (23, false))⟩,
  ⟨some 25, Go.Op.binOp Go.BinOp.neq 9 (Go.Operand.tmp 24) (Go.Operand.const (Go.Value.string { data := #[90] })) 9, (some (23, false))⟩,
  ⟨some 26, Go.Op.move (Go.Operand.tmp 25), (some (23, false))⟩,
  ⟨some 27, Go.Op.move (Go.Operand.tmp 5), (some (26, true))⟩,
  ⟨some 28, Go.Op.call { callee := Go.Callee.value (Go.Operand.func 19), args := #[Go.Operand.tmp 27, Go.Operand.const (Go.Value.string { data := #[43, 100, 100, 58, 100, 100] })], argTypes := #[9, 9] }, (some (26, true))⟩,
  ⟨some 29, Go.Op.unOp Go.UnOp.not 4 (Go.Operand.tmp 28), (some (26, true))⟩,
  ⟨some 30, Go.Op.pick (Go.Operand.tmp 26) (Go.Operand.tmp 29) (Go.Operand.const (Go.Value.bool false)), (some (23, false))⟩,
  ⟨some 31, Go.Op.move (Go.Operand.tmp 30), (some (23, false))⟩,
  ⟨some 32, Go.Op.move (Go.Operand.tmp 5), (some (31, true))⟩,
  ⟨some 33, Go.Op.call { callee := Go.Callee.value (Go.Operand.func 19), args := #[Go.Operand.tmp 32, Go.Operand.const (Go.Value.string { data := #[45, 100, 100, 58, 100, 100] })], argTypes := #[9, 9] }, (some (31, true))⟩,
  ⟨some 34, Go.Op.unOp Go.UnOp.not 4 (Go.Operand.tmp 33), (some (31, true))⟩,
  ⟨some 35, Go.Op.pick (Go.Operand.tmp 31) (Go.Operand.tmp 34) (Go.Operand.const (Go.Value.bool false)), (some (23, false))⟩,
  ⟨some 36, Go.Op.pick (Go.Operand.tmp 23) (Go.Operand.const (Go.Value.bool true)) (Go.Operand.tmp 35), none⟩]) (.cond (Go.Operand.tmp 36) (.seq (.reg []
  [⟨some 2, Go.Op.assign (Go.Operand.const (Go.Value.int Go.IntKind.i64 0)), none⟩,
  ⟨some 3, Go.Op.assign (Go.Operand.const (Go.Value.int Go.IntKind.i64 2)), none⟩]) (.ret)) (.skip))) (.seq (.reg [⟨some 37, Go.Op.move (Go.Operand.tmp 0), none⟩,
  ⟨some 38, Go.Op.slice 9 (Go.Operand.tmp 37) none (some (Go.Operand.const (Go.Value.int Go.IntKind.i64 4))) none, none⟩,
  ⟨some 39, Go.Op.call { callee := Go.Callee.value (Go.Operand.func 20), args := #[Go.Operand.tmp 38], argTypes := #[9] }, none⟩,
  ⟨some 40, Go.Op.move (Go.Operand.tmp 0), none⟩,
  ⟨some 41, Go.Op.slice 9 (Go.Operand.tmp 40) (some (Go.Operand.const (Go.Value.int Go.IntKind.i64 5))) (some (Go.Operand.const (Go.Value.int Go.IntKind.i64 7))) none, none⟩,
  ⟨some 42, Go.Op.call { callee := Go.Callee.value (Go.Operand.func 20), args := #[Go.Operand.tmp 41], argTypes := #[9] }, none⟩,
  ⟨some 43, Go.Op.move (Go.Operand.tmp 0), none⟩,
  ⟨some 44, Go.Op.slice 9 (Go.Operand.tmp 43) (some (Go.Operand.const (Go.Value.int Go.IntKind.i64 8))) (some (Go.Operand.const (Go.Value.int Go.IntKind.i64 10))) none, none⟩,
  ⟨some 45, Go.Op.call { callee := Go.Callee.value (Go.Operand.func 20), args := #[Go.Operand.tmp 44], argTypes := #[9] }, none⟩,
  ⟨some 46, Go.Op.build 42 #[(0, Go.Operand.tmp 39), (1, Go.Operand.tmp 42), (2, Go.Operand.tmp 45)], none⟩,
  ⟨some 47, Go.Op.move (Go.Operand.tmp 0), none⟩,
  ⟨some 48, Go.Op.slice 9 (Go.Operand.tmp 47) (some (Go.Operand.const (Go.Value.int Go.IntKind.i64 11))) (some (Go.Operand.const (Go.Value.int Go.IntKind.i64 13))) none, none⟩,
  ⟨some 49, Go.Op.call { callee := Go.Callee.value (Go.Operand.func 20), args := #[Go.Operand.tmp 48], argTypes := #[9] }, none⟩,
  ⟨some 50, Go.Op.move (Go.Operand.tmp 0), none⟩,
  ⟨some 51, Go.Op.slice 9 (Go.Operand.tmp 50) (some (Go.Operand.const (Go.Value.int Go.IntKind.i64 14))) (some (Go.Operand.const (Go.Value.int Go.IntKind.i64 16))) none, none⟩,
  ⟨some 52, Go.Op.call { callee := Go.Callee.value (Go.Operand.func 20), args := #[Go.Operand.tmp 51], argTypes := #[9] }, none⟩,
  ⟨some 53, Go.Op.move (Go.Operand.tmp 0), none⟩,
  ⟨some 54, Go.Op.slice 9 (Go.Operand.tmp 53) (some (Go.Operand.const (Go.Value.int Go.IntKind.i64 17))) (some (Go.Operand.const (Go.Value.int Go.IntKind.i64 19))) none, none⟩,
  ⟨some 55, Go.Op.call { callee := Go.Callee.value (Go.Operand.func 20), args := #[Go.Operand.tmp 54], argTypes := #[9] }, none⟩,
  ⟨some 56, Go.Op.build 44 #[(0, Go.Operand.tmp 46), (1, Go.Operand.tmp 49), (2, Go.Operand.tmp 52), (3, Go.Operand.tmp 55)], none⟩,
  ⟨some 6, Go.Op.alloc 44, none⟩]
  [⟨none, Go.Op.store 44 (Go.Operand.tmp 6) (Go.Operand.tmp 56), none⟩]) (.seq (.reg []
  [⟨some 7, Go.Op.assign (Go.Operand.const (Go.Value.int Go.IntKind.i64 0)), none⟩]) (.seq (.seq (.reg []
  [⟨some 57, Go.Op.move (Go.Operand.tmp 5), none⟩,
  ⟨some 58, Go.Op.binOp Go.BinOp.neq 9 (Go.Operand.tmp 57) (Go.Operand.const (Go.Value.string { data := #[90] })) 9, none⟩]) (.cond (Go.Operand.tmp 58) (.seq (.reg [⟨some 59, Go.Op.move (Go.Operand.tmp 5), none⟩,
  ⟨some 60, Go.Op.slice 9 (Go.Operand.tmp 59) (some (Go.Operand.const (Go.Value.int Go.IntKind.i64 1))) (some (Go.Operand.const (Go.Value.int Go.IntKind.i64 3))) none, none⟩,
  ⟨some 61, Go.Op.call { callee := Go.Callee.value (Go.Operand.func 20), args := #[Go.Operand.tmp 60], argTypes := #[9] }, none⟩,
  ⟨some 62, Go.Op.move (Go.Operand.tmp 5), none⟩,
  ⟨some 63, Go.Op.slice 9 (Go.Operand.tmp 62) (some (Go.Operand.const (Go.Value.int Go.IntKind.i64 4))) none none, none⟩,
  ⟨some 64, Go.Op.call { callee := Go.Callee.value (Go.Operand.func 20), args := #[Go.Operand.tmp 63], argTypes := #[9] }, none⟩,
  ⟨some 8, Go.Op.assign (Go.Operand.tmp 61), none⟩,
  ⟨some 9, Go.Op.assign (Go.Operand.tmp 64), none⟩]
  []) (.seq (.seq (.reg []
  [⟨some 65, Go.Op.move (Go.Operand.tmp 8), none⟩,
  ⟨some 66, Go.Op.binOp Go.BinOp.gtr 3 (Go.Operand.tmp 65) (Go.Operand.const (Go.Value.int Go.IntKind.i64 23)) 3, none⟩,
  ⟨some 67, Go.Op.move (Go.Operand.tmp 66), none⟩,
  ⟨some 68, Go.Op.move (Go.Operand.tmp 9), (some (67, false))⟩,
  ⟨some 69, Go.Op.binOp Go.BinOp.gtr 3 (Go.Operand.tmp 68) (Go.Operand.const (Go.Value.int Go.IntKind.i64 59)) 3, (some (67, false))⟩,
  ⟨some 70, Go.Op.pick (Go.Operand.tmp 67) (Go.Operand.const (Go.Value.bool true)) (Go.Operand.tmp 69), none⟩]) (.cond (Go.Operand.tmp 70) (.seq (.reg []
  [⟨some 2, Go.Op.assign (Go.Operand.const (Go.Value.int Go.IntKind.i64 0)), none⟩,
  ⟨some 3, Go.Op.assign (Go.Operand.const (Go.Value.int Go.IntKind.i64 12)), none⟩]) (.ret)) (.skip))) (.reg []
  [⟨some 71, Go.Op.move (Go.Operand.tmp 8), none⟩,
  ⟨some 72, Go.Op.binOp Go.BinOp.mul 3 (Go.Operand.tmp 71) (Go.Operand.const (Go.Value.int Go.IntKind.i64 3600)) 3, none⟩,
  ⟨some 73, Go.Op.move (Go.Operand.tmp 9), none⟩,
  ⟨some 74, Go.Op.binOp Go.BinOp.mul 3 (Go.Operand.tmp 73) (Go.Operand.const (Go.Value.int Go.IntKind.i64 60)) 3, none⟩,
  ⟨some 75, Go.Op.binOp Go.BinOp.add 3 (Go.Operand.tmp 72) (Go.Operand.tmp 74) 3, none⟩,
  ⟨some 7, Go.Op.assign (Go.Operand.tmp 75), none⟩]))) (.skip))) (.seq (.seq (.reg []
  [⟨some 76, Go.Op.move (Go.Operand.tmp 5), none⟩,
  ⟨some 77, Go.Op.index 9 (Go.Operand.tmp 76) (Go.Operand.const (Go.Value.int Go.IntKind.i64 0)), none⟩,
  ⟨some 78, Go.Op.binOp Go.BinOp.eql 5 (Go.Operand.tmp 77) (Go.Operand.const (Go.Value.int Go.IntKind.u8 43)) 5, none⟩]) (.cond (Go.Operand.tmp 78) (.reg []
  [⟨some 79, Go.Op.move (Go.Operand.tmp 7), none⟩,
  ⟨some 80, Go.Op.unOp Go.UnOp.neg 3 (Go.Operand.tmp 79), none⟩,
  ⟨some 7, Go.Op.assign (Go.Operand.tmp 80), none⟩]) (.skip))) (.seq (.seq (.reg []
  [⟨some 81, Go.Op.load 44 (Go.Operand.tmp 6), none⟩,
  ⟨some 82, Go.Op.call { callee := Go.Callee.value (Go.Operand.func 21), args := #[Go.Operand.tmp 81], argTypes := #[44] }, none⟩,
  ⟨some 83, Go.Op.unOp Go.UnOp.not 4 (Go.Operand.tmp 82), none⟩,
  ⟨some 84, Go.Op.move (Go.Operand.tmp 83), none⟩,
  ⟨some 85, Go.Op.load 44 (Go.Operand.tmp 6), (some (84, false))⟩,
  ⟨some 86, Go.Op.call { callee := Go.Callee.value (Go.Operand.func 23), args := #[Go.Operand.tmp 85], argTypes := #[44] }, (some (84, false))⟩,
  ⟨some 87, Go.Op.move (Go.Operand.tmp 7), (some (84, false))⟩,
  ⟨some 88, Go.Op.binOp Go.BinOp.add 3 (Go.Operand.tmp 86) (Go.Operand.tmp 87) 3, (some (84, false))⟩,
  ⟨some 89, Go.Op.call { callee := Go.Callee.value (Go.Operand.func 22), args := #[Go.Operand.tmp 88], argTypes := #[3] }, (some (84, false))⟩,
  ⟨some 90, Go.Op.unOp Go.UnOp.not 4 (Go.Operand.tmp 89), (some (84, false))⟩,
  ⟨some 91, Go.Op.pick (Go.Operand.tmp 84) (Go.Operand.const (Go.Value.bool true)) (Go.Operand.tmp 90), none⟩]) (.cond (Go.Operand.tmp 91) (.seq (.reg []
  [⟨some 2, Go.Op.assign (Go.Operand.const (Go.Value.int Go.IntKind.i64 0)), none⟩,
  ⟨some 3, Go.Op.assign (Go.Operand.const (Go.Value.int Go.IntKind.i64 12)), none⟩]) (.ret)) (.skip))) (.seq (.reg []
  [⟨some 92, Go.Op.load 44 (Go.Operand.tmp 6), none⟩,
  ⟨some 93, Go.Op.call { callee := Go.Callee.value (Go.Operand.func 23), args := #[Go.Operand.tmp 92], argTypes := #[44] }, none⟩,
  ⟨some 94, Go.Op.move (Go.Operand.tmp 7), none⟩,
  ⟨some 95, Go.Op.binOp Go.BinOp.add 3 (Go.Operand.tmp 93) (Go.Operand.tmp 94) 3, none⟩,
  ⟨some 2, Go.Op.assign (Go.Operand.tmp 95), none⟩,
  ⟨some 3, Go.Op.assign (Go.Operand.const (Go.Value.int Go.IntKind.i64 0)), none⟩]) (.ret)))))))))
def mj11_0 : List Nat := [1, 2, 3, 4, 10, 11, 12, 13, 14, 15, 16, 17, 18, 19, 20, 21, 22, 23, 24, 25, 26, 27, 28, 29, 30, 31, 32, 33, 34, 35, 36]
def mj11_1 : List Nat := [0, 1, 2, 3, 4, 7, 8, 9, 10, 11, 12, 13, 14, 15, 16, 17, 18, 19, 20, 21, 22, 23, 24, 25, 26, 27, 28, 29, 30, 31, 32, 33, 34, 35, 36, 37, 38, 39, 40, 41, 42, 43, 44, 45, 46, 47, 48, 49, 50, 51, 52, 53, 54, 55, 56, 57, 58, 59, 60, 61, 62, 63, 64, 65, 66, 67, 68, 69, 70, 71, 72, 73, 74, 75]
def mj11_2 : List Nat := [0, 1, 2, 3, 4, 10, 11, 12, 13, 14, 15, 16, 17, 18, 19, 20, 21, 22, 23, 24, 25, 26, 27, 28, 29, 30, 31, 32, 33, 34, 35, 36, 37, 38, 39, 40, 41, 42, 43, 44, 45, 46, 47, 48, 49, 50, 51, 52, 53, 54, 55, 56, 57, 58, 59, 60, 61, 62, 63, 64, 65, 66, 67, 68, 69, 70]
def mj11_3 : List Nat := [0, 1, 4, 5, 7, 8, 9, 10, 11, 12, 13, 14, 15, 16, 17, 18, 19, 20, 21, 22, 23, 24, 25, 26, 27, 28, 29, 30, 31, 32, 33, 34, 35, 36, 37, 38, 39, 40, 41, 42, 43, 44, 45, 46, 47, 48, 49, 50, 51, 52, 53, 54, 55, 56, 57, 58, 59, 60, 61, 62, 63, 64, 65, 66, 67, 68, 69, 70, 71, 72, 73, 74, 75, 76, 77, 78, 79, 80]
def mj11_4 : List Nat := [0, 1, 2, 3, 4, 5, 8, 9, 10, 11, 12, 13, 14, 15, 16, 17, 18, 19, 20, 21, 22, 23, 24, 25, 26, 27, 28, 29, 30, 31, 32, 33, 34, 35, 36, 37, 38, 39, 40, 41, 42, 43, 44, 45, 46, 47, 48, 49, 50, 51, 52, 53, 54, 55, 56, 57, 58, 59, 60, 61, 62, 63, 64, 65, 66, 67, 68, 69, 70, 71, 72, 73, 74, 75, 76, 77, 78, 79, 80, 81, 82, 83, 84, 85, 86, 87, 88, 89, 90, 91]
theorem ls11 : Tryd.f11.body.map (strip Tryd.prog impCodA) = some lc11 := by kernel_rfl
theorem lcall11 {args : List AV} (hargs : args.length ≤ 96) {H0 : AHeap} (lo : Nat) (hlo : H0.length ≤ lo) {r0 : AV} {H0' : AHeap}
    (h : lavc Tryd.prog glob lc11 (args ++ List.replicate (96 - args.length) (.v undef)) H0 fun e t H => (e = .normal ∨ e = .ret) ∧ aret Tryd.prog t H [Go.ResultVar.tmp 2, Go.ResultVar.tmp 3] fun r => Fin lo H r r0 H0') :
    ACall Tryd.prog glob (H0.length == 0) 11 args H0 r0 H0' := LCall' ctx Tryd.func11 (by kernel_rfl) ls11 (by kernel_rfl) (by kernel_rfl) hargs lo hlo h
theorem lcallk11 {args : List AV} (hargs : args.length ≤ 96) {H0 : AHeap} {r0 : AV} {H0' : AHeap}
    (h : lavc Tryd.prog glob lc11 (args ++ List.replicate (96 - args.length) (.v undef)) H0 fun e t H => (e = .normal ∨ e = .ret) ∧ aret Tryd.prog t H [Go.ResultVar.tmp 2, Go.ResultVar.tmp 3] fun r => r = r0 ∧ H = H0') :
    ACall Tryd.prog glob false 11 args H0 r0 H0' := LCallK' ctx Tryd.func11 (by kernel_rfl) ls11 (by kernel_rfl) (by kernel_rfl) hargs h
/-- escutcheon/escutcheonref21.Read -/
def lc12 : LCode := .seq (.reg []
  [⟨some 2, Go.Op.assign (Go.Operand.const (Go.Value.int Go.IntKind.i64 0)), none⟩,
  ⟨some 3, Go.Op.assign (Go.Operand.const (Go.Value.int Go.IntKind.i64 0)), none⟩]) (.seq (.seq (.reg []
  [⟨some 14, Go.Op.move (Go.Operand.tmp 0), none⟩,
  ⟨some 15, Go.Op.call { callee := Go.Callee.builtin Go.Builtin.len, args := #[Go.Operand.tmp 14], argTypes := #[9] }, none⟩,
  ⟨some 16, Go.Op.binOp Go.BinOp.neq 3 (Go.Operand.tmp 15) (Go.Operand.const (Go.Value.int Go.IntKind.i64 20)) 3, none⟩,
  ⟨some 17, Go.Op.move (Go.Operand.tmp 16), none⟩,
  ⟨some 18, Go.Op.move (Go.Operand.tmp 0), (some (17, true))⟩,
  ⟨some 19, Go.Op.call { callee := Go.Callee.builtin Go.Builtin.len, args := #[Go.Operand.tmp 18], argTypes := #[9] }, (some (17, true))⟩,
  ⟨some 20, Go.Op.binOp Go.BinOp.neq 3 (Go.Operand.tmp 19) (Go.Operand.const (Go.Value.int Go.IntKind.i64 25)) 3, (some (17, true))⟩,
  ⟨some 21, Go.Op.pick (Go.Operand.tmp 17) (Go.Operand.tmp 20) (Go.Operand.const (Go.Value.bool false)), none⟩]) (.cond (Go.Operand.tmp 21) (.seq (.reg []
  [⟨some 2, Go.Op.assign (Go.Operand.const (Go.Value.int Go.IntKind.i64 0)), none⟩,
  ⟨some 3, Go.Op.assign (Go.Operand.const (Go.Value.int Go.IntKind.i64 2)), none⟩]) (.ret)) (.skip))) (.seq (.reg [⟨some 22, Go.Op.move (Go.Operand.tmp 0), none⟩,
  ⟨some 23, Go.Op.slice 9 (Go.Operand.tmp 22) none (some (Go.Operand.const (Go.Value.int Go.IntKind.i64 4))) none, none⟩,
  ⟨some 24, Go.Op.call { callee := Go.Callee.value (Go.Operand.func 24), args := #[Go.Operand.tmp 23], argTypes := #[9] }, none⟩,
  ⟨some 25, Go.Op.move (Go.Operand.tmp 0), none⟩,
  ⟨some 26, Go.Op.slice 9 (Go.Operand.tmp 25) (some (Go.Operand.const (Go.Value.int Go.IntKind.i64 5))) (some (Go.Operand.const (Go.Value.int Go.IntKind.i64 7))) none, none⟩,
  ⟨some 27, Go.Op.call { callee := Go.Callee.value (Go.Operand.func 24), args := #[Go.Operand.tmp 26], argTypes := #[9] }, none⟩,
  ⟨some 28, Go.Op.move (Go.Operand.tmp 0), none⟩,
  ⟨some 29, Go.Op.slice 9 (Go.Operand.tmp 28) (some (Go.Operand.const (Go.Value.int Go.IntKind.i64 8))) (some (Go.Operand.const (Go.Value.int Go.IntKind.i64 10))) none, none⟩,
  ⟨some 30, Go.Op.call { callee := Go.Callee.value (Go.Operand.func 24), args := #[Go.Operand.tmp 29], argTypes := #[9] }, none⟩,
  ⟨some 31, Go.Op.move (Go.Operand.tmp 0), none⟩,
  ⟨some 32, Go.Op.slice 9 (Go.Operand.tmp 31) (some (Go.Operand.const (Go.Value.int Go.IntKind.i64 11))) (some (Go.Operand.const (Go.Value.int Go.IntKind.i64 13))) none, none⟩,
  ⟨some 33, Go.Op.call { callee := Go.Callee.value (Go.Operand.func 24), args := #[Go.Operand.tmp 32], argTypes := #[9] }, none⟩,
  ⟨some 34, Go.Op.move (Go.Operand.tmp 0), none⟩,
  ⟨some 35, Go.Op.slice 9 (Go.Operand.tmp 34) (some (Go.Operand.const (Go.Value.int Go.IntKind.i64 14))) (some (Go.Operand.const (Go.Value.int Go.IntKind.i64 16))) none, none⟩,
  ⟨some 36, Go.Op.call { callee := Go.Callee.value (Go.Operand.func 24), args := #[Go.Operand.tmp 35], argTypes := #[9] }, none⟩,
  ⟨some 37, Go.Op.move (Go.Operand.tmp 0), none⟩,
  ⟨some 38, Go.Op.slice 9 (Go.Operand.tmp 37) (some (Go.Operand.const (Go.Value.int Go.IntKind.i64 17))) (some (Go.Operand.const (Go.Value.int Go.IntKind.i64 19))) none, none⟩,
  ⟨some 39, Go.Op.call { callee := Go.Callee.value (Go.Operand.func 24), args := #[Go.Operand.tmp 38], argTypes := #[9] }, none⟩,
  ⟨some 4, Go.Op.assign (Go.Operand.tmp 24), none⟩,
  ⟨some 5, Go.Op.assign (Go.Operand.tmp 27), none⟩,
  ⟨some 6, Go.Op.assign (Go.Operand.tmp 30), none⟩,
  ⟨some 7, Go.Op.assign (Go.Operand.tmp 33), none⟩,
  ⟨some 8, Go.Op.assign (Go.Operand.tmp 36), none⟩,
  ⟨some 9, Go.Op.assign (Go.Operand.tmp 39), none⟩]
  []) (.seq (.seq (.reg []
  [⟨some 40, Go.Op.move (Go.Operand.tmp 4), none⟩,
  ⟨some 41, Go.Op.binOp Go.BinOp.lss 3 (Go.Operand.tmp 40) (Go.Operand.const (Go.Value.int Go.IntKind.i64 0)) 3, none⟩,
  ⟨some 42, Go.Op.move (Go.Operand.tmp 41), none⟩,
  ⟨some 43, Go.Op.move (Go.Operand.tmp 5), (some (42, false))⟩,
  ⟨some 44, Go.Op.binOp Go.BinOp.lss 3 (Go.Operand.tmp 43) (Go.Operand.const (Go.Value.int Go.IntKind.i64 0)) 3, (some (42, false))⟩,
  ⟨some 45, Go.Op.pick (Go.Operand.tmp 42) (Go.Operand.const (Go.Value.bool true)) (Go.Operand.tmp 44), none⟩,
  ⟨some 46, Go.Op.move (Go.Operand.tmp 45), none⟩,
  ⟨some 47, Go.Op.move (Go.Operand.tmp 6), (some (46, false))⟩,
  ⟨some 48, Go.Op.binOp Go.BinOp.lss 3 (Go.Operand.tmp 47) (Go.Operand.const (Go.Value.int Go.IntKind.i64 0)) 3, (some (46, false))⟩,
  ⟨some 49, Go.Op.pick (Go.Operand.tmp 46) (Go.Operand.const (Go.Value.bool true)) (Go.Operand.tmp 48), none⟩,
  ⟨some 50, Go.Op.move (Go.Operand.tmp 49), none⟩,
  ⟨some 51, Go.Op.move (Go.Operand.tmp 7), (some (50, false))⟩,
  ⟨some 52, Go.Op.binOp Go.BinOp.lss 3 (Go.Operand.tmp 51) (Go.Operand.const (Go.Value.int Go.IntKind.i64 0)) 3, (some (50, false))⟩,
  ⟨some 53, Go.Op.pick (Go.Operand.tmp 50) (Go.Operand.const (Go.Value.bool true)) (Go.Operand.tmp 52), none⟩,
  ⟨some 54, Go.Op.move (Go.Operand.tmp 53), none⟩,
  ⟨some 55, Go.Op.move (Go.Operand.tmp 8), (some (54, false))⟩,
  ⟨some 56, Go.Op.binOp Go.BinOp.lss 3 (Go.Operand.tmp 55) (Go.Operand.const (Go.Value.int Go.IntKind.i64 0)) 3, (some (54, false))⟩,
  ⟨some 57, Go.Op.pick (Go.Operand.tmp 54) (Go.Operand.const (Go.Value.bool true)) (Go.Operand.tmp 56), none⟩,
  ⟨some 58, Go.Op.move (Go.Operand.tmp 57), none⟩,
  ⟨some 59, Go.Op.move (Go.Operand.tmp 9), (some (58, false))⟩,
  ⟨some 60, Go.Op.binOp Go.BinOp.lss 3 (Go.Operand.tmp 59) (Go.Operand.const (Go.Value.int Go.IntKind.i64 0)) 3, (some (58, false))⟩,
  ⟨some 61, Go.Op.pick (Go.Operand.tmp 58) (Go.Operand.const (Go.Value.bool true)) (Go.Operand.tmp 60), none⟩,
  ⟨some 62, Go.Op.move (Go.Operand.tmp 61), none⟩,
  ⟨some 63, Go.Op.move (Go.Operand.tmp 0), (some (62, false))⟩,
  ⟨some 64, Go.Op.index 9 (Go.Operand.tmp 63) (Go.Operand.const (Go.Value.int Go.IntKind.i64 4)), (some (62, false))⟩,
  ⟨some 65, Go.Op.binOp Go.BinOp.neq 5 (Go.Operand.tmp 64) (Go.Operand.const (Go.Value.int Go.IntKind.u8 45)) 5, (some (62, false))⟩,
  ⟨some 66, Go.Op.pick (Go.Operand.tmp 62) (Go.Operand.const (Go.Value.bool true)) (Go.Operand.tmp 65), none⟩,
  ⟨some 67, Go.Op.move (Go.Operand.tmp 66), none⟩,
  ⟨some 68, Go.Op.move (Go.Operand.tmp 0), (some (67, false))⟩,
  ⟨some 69, Go.Op.index 9 (Go.Operand.tmp 68) (Go.Operand.const (Go.Value.int Go.IntKind.i64 7)), (some (67, false))⟩,
  ⟨some 70, Go.Op.binOp Go.BinOp.neq 5 (Go.Operand.tmp 69) (Go.Operand.const (Go.Value.int Go.IntKind.u8 45)) 5, (some (67, false))⟩,
  ⟨some 71, Go.Op.pick (Go.Operand.tmp 67) (Go.Operand.const (Go.Value.bool true)) (Go.Operand.tmp 70), none⟩,
  ⟨some 72, Go.Op.move (Go.Operand.tmp 71), none⟩,
  ⟨some 73, Go.Op.move (Go.Operand.tmp 0), (some (72, false))⟩,
  ⟨some 74, Go.Op.index 9 (Go.Operand.tmp 73) (Go.Operand.const (Go.Value.int Go.IntKind.i64 10)), (some (72, false))⟩,
  ⟨some 75, Go.Op.binOp Go.BinOp.neq 5 (Go.Operand.tmp 74) (Go.Operand.const (Go.Value.int Go.IntKind.u8 84)) 5, (some (72, false))⟩,
  ⟨some 76, Go.Op.pick (Go.Operand.tmp 72) (Go.Operand.const (Go.Value.bool true)) (Go.Operand.tmp 75), none⟩,
  ⟨some 77, Go.Op.move (Go.Operand.tmp 76), none⟩,
  ⟨some 78, Go.Op.move (Go.Operand.tmp 0), (some (77, false))⟩,
  ⟨some 79, Go.Op.index 9 (Go.Operand.tmp 78) (Go.Operand.const (Go.Value.int Go.IntKind.i64 13)), (some (77, false))⟩,
  ⟨some 80, Go.Op.binOp Go.BinOp.neq 5 (Go.Operand.tmp 79) (Go.Operand.const (Go.Value.int Go.IntKind.u8 58)) 5, (some (77, false))⟩,
  ⟨some 81, Go.Op.pick (Go.Operand.tmp 77) (Go.Operand.const (Go.Value.bool true)) (Go.Operand.tmp 80), none⟩,
  ⟨some 82, Go.Op.move (Go.Operand.tmp 81), none⟩,
  ⟨some 83, Go.Op.move (Go.Operand.tmp 0), (some (82, false))⟩,
  ⟨some 84, Go.Op.index 9 (Go.Operand.tmp 83) (Go.Operand.const (Go.Value.int Go.IntKind.i64 16)), (some (82, false))⟩,
  ⟨some 85, Go.Op.binOp Go.BinOp.neq 5 (Go.Operand.tmp 84) (Go.Operand.const (Go.Value.int Go.IntKind.u8 58)) 5, (some (82, false))⟩,
  ⟨some 86, Go.Op.pick (Go.Operand.tmp 82) (Go.Operand.const (Go.Value.bool true)) (Go.Operand.tmp 85), none⟩]) (.cond (Go.Operand.tmp 86) (.seq (.reg []
  [⟨some 2, Go.Op.assign (Go.Operand.const (Go.Value.int Go.IntKind.i64 0)), none⟩,
  ⟨some 3, Go.Op.assign (Go.Operand.const (Go.Value.int Go.IntKind.i64 2)), none⟩]) (.ret)) (.skip))) (.seq (.reg []
  [⟨some 10, Go.Op.assign (Go.Operand.const (Go.Value.int Go.IntKind.i64 0)), none⟩]) (.seq (.seq (.reg []
  [⟨some 87, Go.Op.move (Go.Operand.tmp 0), none⟩,
  ⟨some 88, Go.Op.call { callee := Go.Callee.builtin Go.Builtin.len, args := #[Go.Operand.tmp 87], argTypes := #[9] }, none⟩,
  ⟨some 89, Go.Op.binOp Go.BinOp.eql 3 (Go.Operand.tmp 88) (Go.Operand.const (Go.Value.int Go.IntKind.i64 20)) 3, none⟩]) (.cond (Go.Operand.tmp 89) (.seq (.reg []
  [⟨some 90, Go.Op.move (Go.Operand.tmp 0), none⟩,
  ⟨some 91, Go.Op.index 9 (Go.Operand.tmp 90) (Go.Operand.const (Go.Value.int Go.IntKind.i64 19)), none⟩,
  ⟨some 92, Go.Op.binOp Go.BinOp.neq 5 (Go.Operand.tmp 91) (Go.Operand.const (Go.Value.int Go.IntKind.u8 90)) 5, none⟩]) (.cond (Go.Operand.tmp 92) (.seq (.reg []
  [⟨some 2, Go.Op.assign (Go.Operand.const (Go.Value.int Go.IntKind.i64 0)), none⟩,
  ⟨some 3, Go.Op.assign (Go.Operand.const (Go.Value.int Go.IntKind.i64 2)), none⟩]) (.ret)) (.skip))) (.seq (.reg [⟨some 93, Go.Op.move (Go.Operand.tmp 0), none⟩,
  ⟨some 94, Go.Op.slice 9 (Go.Operand.tmp 93) (some (Go.Operand.const (Go.Value.int Go.IntKind.i64 20))) (some (Go.Operand.const (Go.Value.int Go.IntKind.i64 22))) none, none⟩,
  ⟨some 95, Go.Op.call { callee := Go.Callee.value (Go.Operand.func 24), args := #[Go.Operand.tmp 94], argTypes := #[9] }, none⟩,
  ⟨some 96, Go.Op.move (Go.Operand.tmp 0), none⟩,
  ⟨some 97, Go.Op.slice 9 (Go.Operand.tmp 96) (some (Go.Operand.const (Go.Value.int Go.IntKind.i64 23))) none none, none⟩,
  ⟨some 98, Go.Op.call { callee := Go.Callee.value (Go.Operand.func 24), args := #[Go.Operand.tmp 97], argTypes := #[9] }, none⟩,
  ⟨some 11, Go.Op.assign (Go.Operand.tmp 95), none⟩,
  ⟨some 12, Go.Op.assign (Go.Operand.tmp 98), none⟩]
  []) (.seq (.seq (.reg []
  [⟨some 99, Go.Op.move (Go.Operand.tmp 11), none⟩,
  ⟨some 100, Go.Op.binOp Go.BinOp.lss 3 (Go.Operand.tmp 99) (Go.Operand.const (Go.Value.int Go.IntKind.i64 0)) 3, none⟩,
  ⟨some 101, Go.Op.move (Go.Operand.tmp 100), none⟩,
  ⟨some 102, Go.Op.move (Go.Operand.tmp 12), (some (101, false))⟩,
  ⟨some 103, Go.Op.binOp Go.BinOp.lss 3 (Go.Operand.tmp 102) (Go.Operand.const (Go.Value.int Go.IntKind.i64 0)) 3, (some (101, false))⟩,
  ⟨some 104, Go.Op.pick (Go.Operand.tmp 101) (Go.Operand.const (Go.Value.bool true)) (Go.Operand.tmp 103), none⟩,
  ⟨some 105, Go.Op.move (Go.Operand.tmp 104), none⟩,
  ⟨some 106, Go.Op.move (Go.Operand.tmp 0), (some (105, false))⟩,
  ⟨some 107, Go.Op.index 9 (Go.Operand.tmp 106) (Go.Operand.const (Go.Value.int Go.IntKind.i64 22)), (some (105, false))⟩,
  ⟨some 108, Go.Op.binOp Go.BinOp.neq 5 (Go.Operand.tmp 107) (Go.Operand.const (Go.Value.int Go.IntKind.u8 58)) 5, (some (105, false))⟩,
  ⟨some 109, Go.Op.pick (Go.Operand.tmp 105) (Go.Operand.const (Go.Value.bool true)) (Go.Operand.tmp 108), none⟩,
  ⟨some 110, Go.Op.move (Go.Operand.tmp 109), none⟩,
  ⟨some 111, Go.Op.move (Go.Operand.tmp 0), (some (110, false))⟩,
  ⟨some 112, Go.Op.index 9 (Go.Operand.tmp 111) (Go.Operand.const (Go.Value.int Go.IntKind.i64 19)), (some (110, false))⟩,
  ⟨some 113, Go.Op.binOp Go.BinOp.neq 5 (Go.Operand.tmp 112) (Go.Operand.const (Go.Value.int Go.IntKind.u8 43)) 5, (some (110, false))⟩,
  ⟨some 114, Go.Op.move (Go.Operand.tmp 113), (some (110, false))⟩,
  ⟨some 115, Go.Op.move (Go.Operand.tmp 0), (some (114, true))⟩,
  ⟨some 116, Go.Op.index 9 (Go.Operand.tmp 115) (Go.Operand.const (Go.Value.int Go.IntKind.i64 19)), (some (114, true))⟩,
  ⟨some 117, Go.Op.binOp Go.BinOp.neq 5 (Go.Operand.tmp 116) (Go.Operand.const (Go.Value.int Go.IntKind.u8 45)) 5, (some (114, true))⟩,
  ⟨some 118, Go.Op.pick (Go.Operand.tmp 114) (Go.Operand.tmp 117) (Go.Operand.const (Go.Value.bool false)), (some (110, false))⟩,
  ⟨some 119, Go.Op.pick (Go.Operand.tmp 110) (Go.Operand.const (Go.Value.bool true)) (Go.Operand.tmp 118), none⟩]) (.cond (Go.Operand.tmp 119) (.seq (.reg []
  [⟨some 2, Go.Op.assign (Go.Operand.const (Go.Value.int Go.IntKind.i64 0)), none⟩,
  ⟨some 3, Go.Op.assign (Go.Operand.const (Go.Value.int Go.IntKind.i64 2)), none⟩]) (.ret)) (.skip))) (.seq (.seq (.reg []
  [⟨some 120, Go.Op.move (Go.Operand.tmp 11), none⟩,
  ⟨some 121, Go.Op.binOp Go.BinOp.gtr 3 (Go.Operand.tmp 120) (Go.Operand.const (Go.Value.int Go.IntKind.i64 23)) 3, none⟩,
  ⟨some 122, Go.Op.move (Go.Operand.tmp 121), none⟩,
  ⟨some 123, Go.Op.move (Go.Operand.tmp 12), (some (122, false))⟩,
  ⟨some 124, Go.Op.binOp Go.BinOp.gtr 3 (Go.Operand.tmp 123) (Go.Operand.const (Go.Value.int Go.IntKind.i64 59)) 3, (some (122, false))⟩,
  ⟨some 125, Go.Op.pick (Go.Operand.tmp 122) (Go.Operand.const (Go.Value.bool true)) (Go.Operand.tmp 124), none⟩]) (.cond (Go.Operand.tmp 125) (.seq (.reg []
  [⟨some 2, Go.Op.assign (Go.Operand.const (Go.Value.int Go.IntKind.i64 0)), none⟩,
  ⟨some 3, Go.Op.assign (Go.Operand.const (Go.Value.int Go.IntKind.i64 12)), none⟩]) (.ret)) (.skip))) (.seq (.reg []
  [⟨some 126, Go.Op.move (Go.Operand.tmp 11), none⟩,
  ⟨some 127, Go.Op.binOp Go.BinOp.mul 3 (Go.Operand.tmp 126) (Go.Operand.const (Go.Value.int Go.IntKind.i64 3600)) 3, none⟩,
  ⟨some 128, Go.Op.move (Go.Operand.tmp 12), none⟩,
  ⟨some 129, Go.Op.binOp Go.BinOp.mul 3 (Go.Operand.tmp 128) (Go.Operand.const (Go.Value.int Go.IntKind.i64 60)) 3, none⟩,
  ⟨some 130, Go.Op.binOp Go.BinOp.add 3 (Go.Operand.tmp 127) (Go.Operand.tmp 129) 3, none⟩,
  ⟨some 10, Go.Op.assign (Go.Operand.tmp 130), none⟩]) (.seq (.reg []
  [⟨some 131, Go.Op.move (Go.Operand.tmp 0), none⟩,
  ⟨some 132, Go.Op.index 9 (Go.Operand.tmp 131) (Go.Operand.const (Go.Value.int Go.IntKind.i64 19)), none⟩,
  ⟨some 133, Go.Op.binOp Go.BinOp.eql 5 (Go.Operand.tmp 132) (Go.Operand.const (Go.Value.int Go.IntKind.u8 43)) 5, none⟩]) (.cond (Go.Operand.tmp 133) (.reg []
  [⟨some 134, Go.Op.move (Go.Operand.tmp 10), none⟩,
  ⟨some 135, Go.Op.unOp Go.UnOp.neg 3 (Go.Operand.tmp 134), none⟩,
  ⟨some 10, Go.Op.assign (Go.Operand.tmp 135), none⟩]) (.skip))))))))) (.seq (.seq (.reg []
  [⟨some 136, Go.Op.move (Go.Operand.tmp 6), none⟩,
  ⟨some 137, Go.Op.binOp Go.BinOp.lss 3 (Go.Operand.tmp 136) (Go.Operand.const (Go.Value.int Go.IntKind.i64 1)) 3, none⟩,
  ⟨some 138, Go.Op.move (Go.Operand.tmp 137), none⟩,
  ⟨some 139, Go.Op.move (Go.Operand.tmp 6), (some (138, false))⟩,
  ⟨some 140, Go.Op.move (Go.Operand.tmp 4), (some (138, false))⟩,
  ⟨some 141, Go.Op.move (Go.Operand.tmp 5), (some (138, false))⟩,
  ⟨some 142, Go.Op.call { callee := Go.Callee.value (Go.Operand.func 16), args := #[Go.Operand.tmp 140, Go.Operand.tmp 141], argTypes := #[3, 3] }, (some (138, false))⟩,
  ⟨some 143, Go.Op.binOp Go.BinOp.gtr 3 (Go.Operand.tmp 139) (Go.Operand.tmp 142) 3, (some (138, false))⟩,
  ⟨some 144, Go.Op.pick (Go.Operand.tmp 138) (Go.Operand.const (Go.Value.bool true)) (Go.Operand.tmp 143), none⟩,
  ⟨some 145, Go.Op.move (Go.Operand.tmp 144), none⟩,
  ⟨some 146, Go.Op.move (Go.Operand.tmp 7), (some (145, false))⟩,
  ⟨some 147, Go.Op.binOp Go.BinOp.gtr 3 (Go.Operand.tmp 146) (Go.Operand.const (Go.Value.int Go.IntKind.i64 23)) 3, (some (145, false))⟩,
  ⟨some 148, Go.Op.pick (Go.Operand.tmp 145) (Go.Operand.const (Go.Value.bool true)) (Go.Operand.tmp 147), none⟩,
  ⟨some 149, Go.Op.move (Go.Operand.tmp 148), none⟩,
  ⟨some 150, Go.Op.move (Go.Operand.tmp 8), (some (149, false))⟩,
  ⟨some 151, Go.Op.binOp Go.BinOp.gtr 3 (Go.Operand.tmp 150) (Go.Operand.const (Go.Value.int Go.IntKind.i64 59)) 3, (some (149, false))⟩,
  ⟨some 152, Go.Op.pick (Go.Operand.tmp 149) (Go.Operand.const (Go.Value.bool true)) (Go.Operand.tmp 151), none⟩,
  ⟨some 153, Go.Op.move (Go.Operand.tmp 152), none⟩,
  ⟨some 154, Go.Op.move (Go.Operand.tmp 9), (some (153, false))⟩,
  ⟨some 155, Go.Op.binOp Go.BinOp.gtr 3 (Go.Operand.tmp 154) (Go.Operand.const (Go.Value.int Go.IntKind.i64 59)) 3, (some (153, false))⟩,
  ⟨some 156, Go.Op.pick (Go.Operand.tmp 153) (Go.Operand.const (Go.Value.bool true)) (Go.Operand.tmp 155), none⟩]) (.cond (Go.Operand.tmp 156) (.seq (.reg []
  [⟨some 2, Go.Op.assign (Go.Operand.const (Go.Value.int Go.IntKind.i64 0)), none⟩,
  ⟨some 3, Go.Op.assign (Go.Operand.const (Go.Value.int Go.IntKind.i64 12)), none⟩]) (.ret)) (.skip))) (.seq (.reg []
  [⟨some 157, Go.Op.move (Go.Operand.tmp 4), none⟩,
  ⟨some 158, Go.Op.move (Go.Operand.tmp 5), none⟩,
  ⟨some 159, Go.Op.move (Go.Operand.tmp 6), none⟩,
  ⟨some 160, Go.Op.move (Go.Operand.tmp 7), none⟩,
  ⟨some 161, Go.Op.move (Go.Operand.tmp 8), none⟩,
  ⟨some 162, Go.Op.move (Go.Operand.tmp 9), none⟩,
  ⟨some 163, Go.Op.call { callee := Go.Callee.value (Go.Operand.func 18), args := #[Go.Operand.tmp 157, Go.Operand.tmp 158, Go.Operand.tmp 159, Go.Operand.tmp 160, Go.Operand.tmp 161, Go.Operand.tmp 162], argTypes := #[3, 3, 3, 3, 3, 3] }, none⟩,
  ⟨some 164, Go.Op.move (Go.Operand.tmp 10), none⟩,
  ⟨some 165, Go.Op.binOp Go.BinOp.add 3 (Go.Operand.tmp 163) (Go.Operand.tmp 164) 3, none⟩,
  ⟨some 13, Go.Op.assign (Go.Operand.tmp 165), none⟩]) (.seq (.seq (.reg []
  [⟨some 166, Go.Op.move (Go.Operand.tmp 13), none⟩,
  ⟨some 167, Go.Op.call { callee := Go.Callee.value (Go.Operand.func 14), args := #[], argTypes := #[] }, none⟩,
  ⟨some 168, Go.Op.binOp Go.BinOp.lss 3 (Go.Operand.tmp 166) (Go.Operand.tmp 167) 3, none⟩,
  ⟨some 169, Go.Op.move (Go.Operand.tmp 168), none⟩,
  ⟨some 170, Go.Op.move (Go.Operand.tmp 13), (some (169, false))⟩,
  ⟨some 171, Go.Op.call { callee := Go.Callee.value (Go.Operand.func 15), args := #[], argTypes := #[] }, (some (169, false))⟩,
  ⟨some 172, Go.Op.binOp Go.BinOp.gtr 3 (Go.Operand.tmp 170) (Go.Operand.tmp 171) 3, (some (169, false))⟩,
  ⟨some 173, Go.Op.pick (Go.Operand.tmp 169) (Go.Operand.const (Go.Value.bool true)) (Go.Operand.tmp 172), none⟩]) (.cond (Go.Operand.tmp 173) (.seq (.reg []
  [⟨some 2, Go.Op.assign (Go.Operand.const (Go.Value.int Go.IntKind.i64 0)), none⟩,
  ⟨some 3, Go.Op.assign (Go.Operand.const (Go.Value.int Go.IntKind.i64 12)), none⟩]) (.ret)) (.skip))) (.seq (.reg []
  [⟨some 174, Go.Op.move (Go.Operand.tmp 13), none⟩,
  ⟨some 2, Go.Op.assign (Go.Operand.tmp 174), none⟩,
  ⟨some 3, Go.Op.assign (Go.Operand.const (Go.Value.int Go.IntKind.i64 0)), none⟩]) (.ret))))))))))
def mj12_0 : List Nat := [1, 2, 3, 14, 15, 16, 17, 18, 19, 20, 21]
def mj12_1 : List Nat := [1, 2, 3, 14, 15, 16, 17, 18, 19, 20, 21, 22, 23, 24, 25, 26, 27, 28, 29, 30, 31, 32, 33, 34, 35, 36, 37, 38, 39, 40, 41, 42, 43, 44, 45, 46, 47, 48, 49, 50, 51, 52, 53, 54, 55, 56, 57, 58, 59, 60, 61, 62, 63, 64, 65, 66, 67, 68, 69, 70, 71, 72, 73, 74, 75, 76, 77, 78, 79, 80, 81, 82, 83, 84, 85, 86]
def mj12_2 : List Nat := [0, 1, 2, 3, 10, 11, 12, 14, 15, 16, 17, 18, 19, 20, 21, 22, 23, 24, 25, 26, 27, 28, 29, 30, 31, 32, 33, 34, 35, 36, 37, 38, 39, 40, 41, 42, 43, 44, 45, 46, 47, 48, 49, 50, 51, 52, 53, 54, 55, 56, 57, 58, 59, 60, 61, 62, 63, 64, 65, 66, 67, 68, 69, 70, 71, 72, 73, 74, 75, 76, 77, 78, 79, 80, 81, 82, 83, 84, 85, 86, 87, 88, 89, 90, 91, 92, 93, 94, 95, 96, 97, 98, 99, 100, 101, 102, 103, 104, 105, 106, 107, 108, 109, 110, 111, 112, 113, 114, 115, 116, 117, 118, 119, 120, 121, 122, 123, 124, 125, 126, 127, 128, 129, 130, 131, 132, 133, 134, 135]
def mj12_3 : List Nat := [0, 1, 2, 3, 11, 12, 14, 15, 16, 17, 18, 19, 20, 21, 22, 23, 24, 25, 26, 27, 28, 29, 30, 31, 32, 33, 34, 35, 36, 37, 38, 39, 40, 41, 42, 43, 44, 45, 46, 47, 48, 49, 50, 51, 52, 53, 54, 55, 56, 57, 58, 59, 60, 61, 62, 63, 64, 65, 66, 67, 68, 69, 70, 71, 72, 73, 74, 75, 76, 77, 78, 79, 80, 81, 82, 83, 84, 85, 86, 87, 88, 89, 90, 91, 92, 93, 94, 95, 96, 97, 98, 99, 100, 101, 102, 103, 104, 105, 106, 107, 108, 109, 110, 111, 112, 113, 114, 115, 116, 117, 118, 119, 120, 121, 122, 123, 124, 125, 126, 127, 128, 129, 130, 131, 132, 133, 134, 135]
def mj12_4 : List Nat := [1, 2, 3, 14, 15, 16, 17, 18, 19, 20, 21, 22, 23, 24, 25, 26, 27, 28, 29, 30, 31, 32, 33, 34, 35, 36, 37, 38, 39, 40, 41, 42, 43, 44, 45, 46, 47, 48, 49, 50, 51, 52, 53, 54, 55, 56, 57, 58, 59, 60, 61, 62, 63, 64, 65, 66, 67, 68, 69, 70, 71, 72, 73, 74, 75, 76, 77, 78, 79, 80, 81, 82, 83, 84, 85, 86, 87, 88, 89, 90, 91, 92, 93, 94, 95, 96, 97, 98, 99, 100, 101, 102, 103, 104, 105, 106, 107, 108, 109, 110, 111, 112, 113, 114, 115, 116, 117, 118, 119]
def mj12_5 : List Nat := [1, 2, 3, 14, 15, 16, 17, 18, 19, 20, 21, 22, 23, 24, 25, 26, 27, 28, 29, 30, 31, 32, 33, 34, 35, 36, 37, 38, 39, 40, 41, 42, 43, 44, 45, 46, 47, 48, 49, 50, 51, 52, 53, 54, 55, 56, 57, 58, 59, 60, 61, 62, 63, 64, 65, 66, 67, 68, 69, 70, 71, 72, 73, 74, 75, 76, 77, 78, 79, 80, 81, 82, 83, 84, 85, 86, 87, 88, 89, 90, 91, 92, 93, 94, 95, 96, 97, 98, 99, 100, 101, 102, 103, 104, 105, 106, 107, 108, 109, 110, 111, 112, 113, 114, 115, 116, 117, 118, 119, 120, 121, 122, 123, 124, 125]
def mj12_6 : List Nat := [0, 1, 10, 11, 12, 14, 15, 16, 17, 18, 19, 20, 21, 22, 23, 24, 25, 26, 27, 28, 29, 30, 31, 32, 33, 34, 35, 36, 37, 38, 39, 40, 41, 42, 43, 44, 45, 46, 47, 48, 49, 50, 51, 52, 53, 54, 55, 56, 57, 58, 59, 60, 61, 62, 63, 64, 65, 66, 67, 68, 69, 70, 71, 72, 73, 74, 75, 76, 77, 78, 79, 80, 81, 82, 83, 84, 85, 86, 87, 88, 89, 90, 91, 92, 93, 94, 95, 96, 97, 98, 99, 100, 101, 102, 103, 104, 105, 106, 107, 108, 109, 110, 111, 112, 113, 114, 115, 116, 117, 118, 119, 120, 121, 122, 123, 124, 125, 126, 127, 128, 129, 130, 131, 132, 133, 134, 135]
def mj12_7 : List Nat := [0, 1, 2, 3, 11, 12, 14, 15, 16, 17, 18, 19, 20, 21, 22, 23, 24, 25, 26, 27, 28, 29, 30, 31, 32, 33, 34, 35, 36, 37, 38, 39, 40, 41, 42, 43, 44, 45, 46, 47, 48, 49, 50, 51, 52, 53, 54, 55, 56, 57, 58, 59, 60, 61, 62, 63, 64, 65, 66, 67, 68, 69, 70, 71, 72, 73, 74, 75, 76, 77, 78, 79, 80, 81, 82, 83, 84, 85, 86, 87, 88, 89, 90, 91, 92, 93, 94, 95, 96, 97, 98, 99, 100, 101, 102, 103, 104, 105, 106, 107, 108, 109, 110, 111, 112, 113, 114, 115, 116, 117, 118, 119, 120, 121, 122, 123, 124, 125, 126, 127, 128, 129, 130, 131, 132, 133, 134, 135, 136, 137, 138, 139, 140, 141, 142, 143, 144, 145, 146, 147, 148, 149, 150, 151, 152, 153, 154, 155, 156]
def mj12_8 : List Nat := [0, 1, 2, 3, 4, 5, 6, 7, 8, 9, 10, 11, 12, 14, 15, 16, 17, 18, 19, 20, 21, 22, 23, 24, 25, 26, 27, 28, 29, 30, 31, 32, 33, 34, 35, 36, 37, 38, 39, 40, 41, 42, 43, 44, 45, 46, 47, 48, 49, 50, 51, 52, 53, 54, 55, 56, 57, 58, 59, 60, 61, 62, 63, 64, 65, 66, 67, 68, 69, 70, 71, 72, 73, 74, 75, 76, 77, 78, 79, 80, 81, 82, 83, 84, 85, 86, 87, 88, 89, 90, 91, 92, 93, 94, 95, 96, 97, 98, 99, 100, 101, 102, 103, 104, 105, 106, 107, 108, 109, 110, 111, 112, 113, 114, 115, 116, 117, 118, 119, 120, 121, 122, 123, 124, 125, 126, 127, 128, 129, 130, 131, 132, 133, 134, 135, 136, 137, 138, 139, 140, 141, 142, 143, 144, 145, 146, 147, 148, 149, 150, 151, 152, 153, 154, 155, 156, 157, 158, 159, 160, 161, 162, 163, 164, 165, 166, 167, 168, 169, 170, 171, 172, 173]
theorem ls12 : Tryd.f12.body.map (strip Tryd.prog impCodA) = some lc12 := by kernel_rfl
theorem lcall12 {args : List AV} (hargs : args.length ≤ 175) {H0 : AHeap} (lo : Nat) (hlo : H0.length ≤ lo) {r0 : AV} {H0' : AHeap}
    (h : lavc Tryd.prog glob lc12 (args ++ List.replicate (175 - args.length) (.v undef)) H0 fun e t H => (e = .normal ∨ e = .ret) ∧ aret Tryd.prog t H [Go.ResultVar.tmp 2, Go.ResultVar.tmp 3] fun r => Fin lo H r r0 H0') :
    ACall Tryd.prog glob (H0.length == 0) 12 args H0 r0 H0' := LCall' ctx Tryd.func12 (by kernel_rfl) ls12 (by kernel_rfl) (by kernel_rfl) hargs lo hlo h
theorem lcallk12 {args : List AV} (hargs : args.length ≤ 175) {H0 : AHeap} {r0 : AV} {H0' : AHeap}
    (h : lavc Tryd.prog glob lc12 (args ++ List.replicate (175 - args.length) (.v undef)) H0 fun e t H => (e = .normal ∨ e = .ret) ∧ aret Tryd.prog t H [Go.ResultVar.tmp 2, Go.ResultVar.tmp 3] fun r => r = r0 ∧ H = H0') :
    ACall Tryd.prog glob false 12 args H0 r0 H0' := LCallK' ctx Tryd.func12 (by kernel_rfl) ls12 (by kernel_rfl) (by kernel_rfl) hargs h
/-- escutcheon/hour.Text -/
def lc13 : LCode := .seq (.reg []
  [⟨some 2, Go.Op.assign (Go.Operand.const (Go.Value.string { data := #[] })), none⟩,
  ⟨some 3, Go.Op.assign (Go.Operand.const (Go.Value.int Go.IntKind.i64 0)), none⟩]) (.seq (.seq (.reg []
  [⟨some 8, Go.Op.move (Go.Operand.tmp 0), none⟩,
  ⟨some 9, Go.Op.call { callee := Go.Callee.value (Go.Operand.func 22), args := #[Go.Operand.tmp 8], argTypes := #[3] }, none⟩,
  ⟨some 10, Go.Op.unOp Go.UnOp.not 4 (Go.Operand.tmp 9), none⟩]) (.cond (Go.Operand.tmp 10) (.seq (.reg []
  [⟨some 2, Go.Op.assign (Go.Operand.const (Go.Value.string { data := #[] })), none⟩,
  ⟨some 3, Go.Op.assign (Go.Operand.const (Go.Value.int Go.IntKind.i64 12)), none⟩]) (.ret)) (.skip))) (.seq (.reg []
  [⟨some 11, Go.Op.move (Go.Operand.tmp 0), none⟩,
  ⟨some 12, Go.Op.call { callee := Go.Callee.value (Go.Operand.func 25), args := #[Go.Operand.tmp 11], argTypes := #[3] }, none⟩,
  ⟨some 4, Go.Op.alloc 44, none⟩,
  ⟨none, Go.Op.store 44 (Go.Operand.tmp 4) (Go.Operand.tmp 12), none⟩]) (.seq (.reg []
  [⟨some 5, Go.Op.alloc 48, none⟩]) (.seq (.reg []
  [⟨some 13, Go.Op.fieldAddr 44 (Go.Operand.tmp 4) 0, none⟩,
  ⟨some 14, Go.Op.fieldAddr 42 (Go.Operand.tmp 13) 0, none⟩,
  ⟨some 15, Go.Op.load 3 (Go.Operand.tmp 14), none⟩,
  ⟨some 16, Go.Op.call { callee := Go.Callee.value (Go.Operand.func 27), args := #[Go.Operand.tmp 15, Go.Operand.const (Go.Value.int Go.IntKind.i64 4)], argTypes := #[3, 3] }, none⟩,
  ⟨some 17, Go.Op.call { callee := Go.Callee.value (Go.Operand.func 26), args := #[Go.Operand.tmp 5, Go.Operand.tmp 16], argTypes := #[48, 9] }, none⟩]) (.seq (.seq (.reg []
  [⟨some 18, Go.Op.fieldAddr 44 (Go.Operand.tmp 4) 0, none⟩,
  ⟨some 19, Go.Op.fieldAddr 42 (Go.Operand.tmp 18) 1, none⟩,
  ⟨some 20, Go.Op.load 3 (Go.Operand.tmp 19), none⟩,
  ⟨some 21, Go.Op.fieldAddr 44 (Go.Operand.tmp 4) 0, none⟩,
  ⟨some 22, Go.Op.fieldAddr 42 (Go.Operand.tmp 21) 2, none⟩,
  ⟨some 23, Go.Op.load 3 (Go.Operand.tmp 22), none⟩,
  ⟨some 24, Go.Op.fieldAddr 44 (Go.Operand.tmp 4) 1, none⟩,
  ⟨some 25, Go.Op.load 3 (Go.Operand.tmp 24), none⟩,
  ⟨some 26, Go.Op.fieldAddr 44 (Go.Operand.tmp 4) 2, none⟩,
  ⟨some 27, Go.Op.load 3 (Go.Operand.tmp 26), none⟩,
  ⟨some 28, Go.Op.fieldAddr 44 (Go.Operand.tmp 4) 3, none⟩,
  ⟨some 29, Go.Op.load 3 (Go.Operand.tmp 28), none⟩,
  ⟨some 30, Go.Op.build 54 #[(0, Go.Operand.tmp 20), (1, Go.Operand.tmp 23), (2, Go.Operand.tmp 25), (3, Go.Operand.tmp 27), (4, Go.Operand.tmp 29)], none⟩,
  ⟨some 31, Go.Op.move (Go.Operand.const (Go.Value.int Go.IntKind.i64 0)), none⟩]) (.block 0 (.loop (.seq (.reg []
  [⟨some 32, Go.Op.binOp Go.BinOp.lss 3 (Go.Operand.tmp 31) (Go.Operand.const (Go.Value.int Go.IntKind.i64 5)) 3, none⟩]) (.seq (.cond (Go.Operand.tmp 32) (.skip) (.exit 0)) (.seq (.block 1 (.seq (.reg []
  [⟨some 33, Go.Op.move (Go.Operand.tmp 31), none⟩,
  ⟨some 34, Go.Op.index 54 (Go.Operand.tmp 30) (Go.Operand.tmp 31), none⟩,
  ⟨some 6, Go.Op.assign (Go.Operand.tmp 33), none⟩,
  ⟨some 7, Go.Op.assign (Go.Operand.tmp 34), none⟩]) (.reg [⟨some 35, Go.Op.move (Go.Operand.tmp 6), none⟩,
  ⟨some 36, Go.Op.move (Go.Operand.tmp 6), none⟩,
  ⟨some 37, Go.Op.binOp Go.BinOp.add 3 (Go.Operand.tmp 36) (Go.Operand.const (Go.Value.int Go.IntKind.i64 1)) 3, none⟩,
  ⟨some 38, Go.Op.slice 9 (Go.Operand.const (Go.Value.string { data := #[45, 45, 84, 58, 58] })) (some (Go.Operand.tmp 35)) (some (Go.Operand.tmp 37)) none, none⟩,
  ⟨some 39, Go.Op.move (Go.Operand.tmp 7), none⟩,
  ⟨some 40, Go.Op.call { callee := Go.Callee.value (Go.Operand.func 27), args := #[Go.Operand.tmp 39, Go.Operand.const (Go.Value.int Go.IntKind.i64 2)], argTypes := #[3, 3] }, none⟩,
  ⟨some 41, Go.Op.binOp Go.BinOp.add 9 (Go.Operand.tmp 38) (Go.Operand.tmp 40) 9, none⟩]
  [⟨some 42, Go.Op.call { callee := Go.Callee.value (Go.Operand.func 26), args := #[Go.Operand.tmp 5, Go.Operand.tmp 41], argTypes := #[48, 9] }, none⟩]))) (.reg []
  [⟨some 43, Go.Op.binOp Go.BinOp.add 3 (Go.Operand.tmp 31) (Go.Operand.const (Go.Value.int Go.IntKind.i64 1)) 3, none⟩,
  ⟨some 31, Go.Op.move (Go.Operand.tmp 43), none⟩]))))))) (.seq (.reg []
  [⟨some 44, Go.Op.call { callee := Go.Callee.value (Go.Operand.func 28), args := #[Go.Operand.tmp 5], argTypes := #[48] }, none⟩,
  ⟨some 45, Go.Op.binOp Go.BinOp.add 9 (Go.Operand.tmp 44) (Go.Operand.const (Go.Value.string { data := #[90] })) 9, none⟩,
  ⟨some 2, Go.Op.assign (Go.Operand.tmp 45), none⟩,
  ⟨some 3, Go.Op.assign (Go.Operand.const (Go.Value.int Go.IntKind.i64 0)), none⟩]) (.ret)))))))
def ms13_0 : List Nat := [0, 1, 4, 6, 7, 8, 9, 10, 11, 12, 13, 14, 15, 16, 17, 18, 19, 20, 21, 22, 23, 24, 25, 26, 27, 28, 29, 31, 32, 33, 34, 35, 36, 37, 38, 39, 40, 41, 42, 43]
def mj13_0 : List Nat := [1, 2, 3, 8, 9, 10, 17, 42]
def mj13_1 : List Nat := [0, 1, 4, 8, 9, 10, 11, 12, 13, 14, 15, 16, 17, 18, 19, 20, 21, 22, 23, 24, 25, 26, 27, 28, 29, 42]
theorem ls13 : Tryd.f13.body.map (strip Tryd.prog impCodA) = some lc13 := by kernel_rfl
theorem lcall13 {args : List AV} (hargs : args.length ≤ 46) {H0 : AHeap} (lo : Nat) (hlo : H0.length ≤ lo) {r0 : AV} {H0' : AHeap}
    (h : lavc Tryd.prog glob lc13 (args ++ List.replicate (46 - args.length) (.v undef)) H0 fun e t H => (e = .normal ∨ e = .ret) ∧ aret Tryd.prog t H [Go.ResultVar.tmp 2, Go.ResultVar.tmp 3] fun r => Fin lo H r r0 H0') :
    ACall Tryd.prog glob (H0.length == 0) 13 args H0 r0 H0' := LCall' ctx Tryd.func13 (by kernel_rfl) ls13 (by kernel_rfl) (by kernel_rfl) hargs lo hlo h
theorem lcallk13 {args : List AV} (hargs : args.length ≤ 46) {H0 : AHeap} {r0 : AV} {H0' : AHeap}
    (h : lavc Tryd.prog glob lc13 (args ++ List.replicate (46 - args.length) (.v undef)) H0 fun e t H => (e = .normal ∨ e = .ret) ∧ aret Tryd.prog t H [Go.ResultVar.tmp 2, Go.ResultVar.tmp 3] fun r => r = r0 ∧ H = H0') :
    ACall Tryd.prog glob false 13 args H0 r0 H0' := LCallK' ctx Tryd.func13 (by kernel_rfl) ls13 (by kernel_rfl) (by kernel_rfl) hargs h
/-- escutcheon/escutcheonref21.First -/
def lc14 : LCode := .seq (.reg []
  [⟨some 0, Go.Op.assign (Go.Operand.const (Go.Value.int Go.IntKind.i64 0)), none⟩]) (.seq (.reg []
  [⟨some 1, Go.Op.call { callee := Go.Callee.value (Go.Operand.func 18), args := #[Go.Operand.const (Go.Value.int Go.IntKind.i64 0), Go.Operand.const (Go.Value.int Go.IntKind.i64 1), Go.Operand.const (Go.Value.int Go.IntKind.i64 1), Go.Operand.const (Go.Value.int Go.IntKind.i64 0), Go.Operand.const (Go.Value.int Go.IntKind.i64 0), Go.Operand.const (Go.Value.int Go.IntKind.i64 0)], argTypes := #[3, 3, 3, 3, 3, 3] }, none⟩,
  ⟨some 0, Go.Op.assign (Go.Operand.tmp 1), none⟩]) (.ret))
theorem ls14 : Tryd.f14.body.map (strip Tryd.prog impCodA) = some lc14 := by kernel_rfl
theorem lcall14 {args : List AV} (hargs : args.length ≤ 2) {H0 : AHeap} (lo : Nat) (hlo : H0.length ≤ lo) {r0 : AV} {H0' : AHeap}
    (h : lavc Tryd.prog glob lc14 (args ++ List.replicate (2 - args.length) (.v undef)) H0 fun e t H => (e = .normal ∨ e = .ret) ∧ aret Tryd.prog t H [Go.ResultVar.tmp 0] fun r => Fin lo H r r0 H0') :
    ACall Tryd.prog glob (H0.length == 0) 14 args H0 r0 H0' := LCall' ctx Tryd.func14 (by kernel_rfl) ls14 (by kernel_rfl) (by kernel_rfl) hargs lo hlo h
theorem lcallk14 {args : List AV} (hargs : args.length ≤ 2) {H0 : AHeap} {r0 : AV} {H0' : AHeap}
    (h : lavc Tryd.prog glob lc14 (args ++ List.replicate (2 - args.length) (.v undef)) H0 fun e t H => (e = .normal ∨ e = .ret) ∧ aret Tryd.prog t H [Go.ResultVar.tmp 0] fun r => r = r0 ∧ H = H0') :
    ACall Tryd.prog glob false 14 args H0 r0 H0' := LCallK' ctx Tryd.func14 (by kernel_rfl) ls14 (by kernel_rfl) (by kernel_rfl) hargs h
/-- escutcheon/escutcheonref21.Last -/
def lc15 : LCode := .seq (.reg []
  [⟨some 0, Go.Op.assign (Go.Operand.const (Go.Value.int Go.IntKind.i64 0)), none⟩]) (.seq (.reg []
  [⟨some 1, Go.Op.call { callee := Go.Callee.value (Go.Operand.func 18), args := #[Go.Operand.const (Go.Value.int Go.IntKind.i64 9999), Go.Operand.const (Go.Value.int Go.IntKind.i64 12), Go.Operand.const (Go.Value.int Go.IntKind.i64 31), Go.Operand.const (Go.Value.int Go.IntKind.i64 23), Go.Operand.const (Go.Value.int Go.IntKind.i64 59), Go.Operand.const (Go.Value.int Go.IntKind.i64 59)], argTypes := #[3, 3, 3, 3, 3, 3] }, none⟩,
  ⟨some 0, Go.Op.assign (Go.Operand.tmp 1), none⟩]) (.ret))
theorem ls15 : Tryd.f15.body.map (strip Tryd.prog impCodA) = some lc15 := by kernel_rfl
theorem lcall15 {args : List AV} (hargs : args.length ≤ 2) {H0 : AHeap} (lo : Nat) (hlo : H0.length ≤ lo) {r0 : AV} {H0' : AHeap}
    (h : lavc Tryd.prog glob lc15 (args ++ List.replicate (2 - args.length) (.v undef)) H0 fun e t H => (e = .normal ∨ e = .ret) ∧ aret Tryd.prog t H [Go.ResultVar.tmp 0] fun r => Fin lo H r r0 H0') :
    ACall Tryd.prog glob (H0.length == 0) 15 args H0 r0 H0' := LCall' ctx Tryd.func15 (by kernel_rfl) ls15 (by kernel_rfl) (by kernel_rfl) hargs lo hlo h
theorem lcallk15 {args : List AV} (hargs : args.length ≤ 2) {H0 : AHeap} {r0 : AV} {H0' : AHeap}
    (h : lavc Tryd.prog glob lc15 (args ++ List.replicate (2 - args.length) (.v undef)) H0 fun e t H => (e = .normal ∨ e = .ret) ∧ aret Tryd.prog t H [Go.ResultVar.tmp 0] fun r => r = r0 ∧ H = H0') :
    ACall Tryd.prog glob false 15 args H0 r0 H0' := LCallK' ctx Tryd.func15 (by kernel_rfl) ls15 (by kernel_rfl) (by kernel_rfl) hargs h
/-- escutcheon/escutcheonref21.Days -/
def lc16 : LCode := .seq (.reg []
  [⟨some 4, Go.Op.assign (Go.Operand.const (Go.Value.int Go.IntKind.i64 0)), none⟩]) (.seq (.seq (.reg []
  [⟨some 5, Go.Op.move (Go.Operand.tmp 0), none⟩,
  ⟨some 6, Go.Op.binOp Go.BinOp.lss 3 (Go.Operand.tmp 5) (Go.Operand.const (Go.Value.int Go.IntKind.i64 0)) 3, none⟩,
  ⟨some 7, Go.Op.move (Go.Operand.tmp 6), none⟩,
  ⟨some 8, Go.Op.move (Go.Operand.tmp 0), (some (7, false))⟩,
  ⟨some 9, Go.Op.binOp Go.BinOp.gtr 3 (Go.Operand.tmp 8) (Go.Operand.const (Go.Value.int Go.IntKind.i64 9999)) 3, (some (7, false))⟩,
  ⟨some 10, Go.Op.pick (Go.Operand.tmp 7) (Go.Operand.const (Go.Value.bool true)) (Go.Operand.tmp 9), none⟩,
  ⟨some 11, Go.Op.move (Go.Operand.tmp 10), none⟩,
  ⟨some 12, Go.Op.move (Go.Operand.tmp 1), (some (11, false))⟩,
  ⟨some 13, Go.Op.binOp Go.BinOp.lss 3 (Go.Operand.tmp 12) (Go.Operand.const (Go.Value.int Go.IntKind.i64 1)) 3, (some (11, false))⟩,
  ⟨some 14, Go.Op.pick (Go.Operand.tmp 11) (Go.Operand.const (Go.Value.bool true)) (Go.Operand.tmp 13), none⟩,
  ⟨some 15, Go.Op.move (Go.Operand.tmp 14), none⟩,
  ⟨some 16, Go.Op.move (Go.Operand.tmp 1), (some (15, false))⟩,
  ⟨some 17, Go.Op.binOp Go.BinOp.gtr 3 (Go.Operand.tmp 16) (Go.Operand.const (Go.Value.int Go.IntKind.i64 12)) 3, (some (15, false))⟩,
  ⟨some 18, Go.Op.pick (Go.Operand.tmp 15) (Go.Operand.const (Go.Value.bool true)) (Go.Operand.tmp 17), none⟩]) (.cond (Go.Operand.tmp 18) (.seq (.reg []
  [⟨some 4, Go.Op.assign (Go.Operand.const (Go.Value.int Go.IntKind.i64 0)), none⟩]) (.ret)) (.skip))) (.seq (.seq (.reg []
  [⟨some 19, Go.Op.move (Go.Operand.tmp 1), none⟩,
  ⟨some 20, Go.Op.binOp Go.BinOp.eql 3 (Go.Operand.tmp 19) (Go.Operand.const (Go.Value.int Go.IntKind.i64 2)) 3, none⟩]) (.cond (Go.Operand.tmp 20) (.seq (.seq (.reg []
  [⟨some 21, Go.Op.move (Go.Operand.tmp 0), none⟩,
  ⟨some 22, Go.Op.binOp Go.BinOp.rem 3 (Go.Operand.tmp 21) (Go.Operand.const (Go.Value.int Go.IntKind.i64 400)) 3, none⟩,
  ⟨some 23, Go.Op.binOp Go.BinOp.eql 3 (Go.Operand.tmp 22) (Go.Operand.const (Go.Value.int Go.IntKind.i64 0)) 3, none⟩,
  ⟨some 24, Go.Op.move (Go.Operand.tmp 23), none⟩,
  ⟨some 25, Go.Op.move (Go.Operand.tmp 0), (some (24, false))⟩,
  ⟨some 26, Go.Op.binOp Go.BinOp.rem 3 (Go.Operand.tmp 25) (Go.Operand.const (Go.Value.int Go.IntKind.i64 4)) 3, (some (24, false))⟩,
  ⟨some 27, Go.Op.binOp Go.BinOp.eql 3 (Go.Operand.tmp 26) (Go.Operand.const (Go.Value.int Go.IntKind.i64 0)) 3, (some (24, false))⟩,
  ⟨some 28, Go.Op.move (Go.Operand.tmp 27), (some (24, false))⟩,
  ⟨some 29, Go.Op.move (Go.Operand.tmp 0), (some (28, true))⟩,
  ⟨some 30, Go.Op.binOp Go.BinOp.rem 3 (Go.Operand.tmp 29) (Go.Operand.const (Go.Value.int Go.IntKind.i64 100)) 3, (some (28, true))⟩,
  ⟨some 31, Go.Op.binOp Go.BinOp.neq 3 (Go.Operand.tmp 30) (Go.Operand.const (Go.Value.int Go.IntKind.i64 0)) 3, (some (28, true))⟩,
  ⟨some 32, Go.Op.pick (Go.Operand.tmp 28) (Go.Operand.tmp 31) (Go.Operand.const (Go.Value.bool false)), (some (24, false))⟩,
  ⟨some 33, Go.Op.pick (Go.Operand.tmp 24) (Go.Operand.const (Go.Value.bool true)) (Go.Operand.tmp 32), none⟩]) (.cond (Go.Operand.tmp 33) (.seq (.reg []
  [⟨some 4, Go.Op.assign (Go.Operand.const (Go.Value.int Go.IntKind.i64 29)), none⟩]) (.ret)) (.skip))) (.seq (.reg []
  [⟨some 4, Go.Op.assign (Go.Operand.const (Go.Value.int Go.IntKind.i64 28)), none⟩]) (.ret))) (.skip))) (.seq (.seq (.reg []
  [⟨some 34, Go.Op.move (Go.Operand.tmp 1), none⟩,
  ⟨some 35, Go.Op.binOp Go.BinOp.eql 3 (Go.Operand.tmp 34) (Go.Operand.const (Go.Value.int Go.IntKind.i64 4)) 3, none⟩,
  ⟨some 36, Go.Op.move (Go.Operand.tmp 35), none⟩,
  ⟨some 37, Go.Op.move (Go.Operand.tmp 1), (some (36, false))⟩,
  ⟨some 38, Go.Op.binOp Go.BinOp.eql 3 (Go.Operand.tmp 37) (Go.Operand.const (Go.Value.int Go.IntKind.i64 6)) 3, (some (36, false))⟩,
  ⟨some 39, Go.Op.pick (Go.Operand.tmp 36) (Go.Operand.const (Go.Value.bool true)) (Go.Operand.tmp 38), none⟩,
  ⟨some 40, Go.Op.move (Go.Operand.tmp 39), none⟩,
  ⟨some 41, Go.Op.move (Go.Operand.tmp 1), (some (40, false))⟩,
  ⟨some 42, Go.Op.binOp Go.BinOp.eql 3 (Go.Operand.tmp 41) (Go.Operand.const (Go.Value.int Go.IntKind.i64 9)) 3, (some (40, false))⟩,
  ⟨some 43, Go.Op.pick (Go.Operand.tmp 40) (Go.Operand.const (Go.Value.bool true)) (Go.Operand.tmp 42), none⟩,
  ⟨some 44, Go.Op.move (Go.Operand.tmp 43), none⟩,
  ⟨some 45, Go.Op.move (Go.Operand.tmp 1), (some (44, false))⟩,
  ⟨some 46, Go.Op.binOp Go.BinOp.eql 3 (Go.Operand.tmp 45) (Go.Operand.const (Go.Value.int Go.IntKind.i64 11)) 3, (some (44, false))⟩,
  ⟨some 47, Go.Op.pick (Go.Operand.tmp 44) (Go.Operand.const (Go.Value.bool true)) (Go.Operand.tmp 46), none⟩]) (.cond (Go.Operand.tmp 47) (.seq (.reg []
  [⟨some 4, Go.Op.assign (Go.Operand.const (Go.Value.int Go.IntKind.i64 30)), none⟩]) (.ret)) (.skip))) (.seq (.reg []
  [⟨some 4, Go.Op.assign (Go.Operand.const (Go.Value.int Go.IntKind.i64 31)), none⟩]) (.ret)))))
def mj16_0 : List Nat := [2, 3, 4, 5, 6, 7, 8, 9, 10, 11, 12, 13, 14, 15, 16, 17, 18]
def mj16_1 : List Nat := [0, 2, 3, 4, 5, 6, 7, 8, 9, 10, 11, 12, 13, 14, 15, 16, 17, 18, 19, 20, 21, 22, 23, 24, 25, 26, 27, 28, 29, 30, 31, 32, 33]
def mj16_2 : List Nat := [0, 2, 3, 4, 5, 6, 7, 8, 9, 10, 11, 12, 13, 14, 15, 16, 17, 18, 19, 20, 21, 22, 23, 24, 25, 26, 27, 28, 29, 30, 31, 32, 33]
def mj16_3 : List Nat := [0, 1, 2, 3, 4, 5, 6, 7, 8, 9, 10, 11, 12, 13, 14, 15, 16, 17, 18, 19, 20, 21, 22, 23, 24, 25, 26, 27, 28, 29, 30, 31, 32, 33, 34, 35, 36, 37, 38, 39, 40, 41, 42, 43, 44, 45, 46, 47]
theorem ls16 : Tryd.f16.body.map (strip Tryd.prog impCodA) = some lc16 := by kernel_rfl
theorem lcall16 {args : List AV} (hargs : args.length ≤ 48) {H0 : AHeap} (lo : Nat) (hlo : H0.length ≤ lo) {r0 : AV} {H0' : AHeap}
    (h : lavc Tryd.prog glob lc16 (args ++ List.replicate (48 - args.length) (.v undef)) H0 fun e t H => (e = .normal ∨ e = .ret) ∧ aret Tryd.prog t H [Go.ResultVar.tmp 4] fun r => Fin lo H r r0 H0') :
    ACall Tryd.prog glob (H0.length == 0) 16 args H0 r0 H0' := LCall' ctx Tryd.func16 (by kernel_rfl) ls16 (by kernel_rfl) (by kernel_rfl) hargs lo hlo h
theorem lcallk16 {args : List AV} (hargs : args.length ≤ 48) {H0 : AHeap} {r0 : AV} {H0' : AHeap}
    (h : lavc Tryd.prog glob lc16 (args ++ List.replicate (48 - args.length) (.v undef)) H0 fun e t H => (e = .normal ∨ e = .ret) ∧ aret Tryd.prog t H [Go.ResultVar.tmp 4] fun r => r = r0 ∧ H = H0') :
    ACall Tryd.prog glob false 16 args H0 r0 H0' := LCallK' ctx Tryd.func16 (by kernel_rfl) ls16 (by kernel_rfl) (by kernel_rfl) hargs h
/-- escutcheon/hour.Days -/
def lc17 : LCode := .seq (.reg []
  [⟨some 4, Go.Op.assign (Go.Operand.const (Go.Value.int Go.IntKind.i64 0)), none⟩]) (.seq (.seq (.reg []
  [⟨some 5, Go.Op.move (Go.Operand.tmp 0), none⟩,
  ⟨some 6, Go.Op.binOp Go.BinOp.lss 3 (Go.Operand.tmp 5) (Go.Operand.const (Go.Value.int Go.IntKind.i64 0)) 3, none⟩,
  ⟨some 7, Go.Op.move (Go.Operand.tmp 6), none⟩,
  ⟨some 8, Go.Op.move (Go.Operand.tmp 0), (some (7, false))⟩,
  ⟨some 9, Go.Op.binOp Go.BinOp.gtr 3 (Go.Operand.tmp 8) (Go.Operand.const (Go.Value.int Go.IntKind.i64 9999)) 3, (some (7, false))⟩,
  ⟨some 10, Go.Op.pick (Go.Operand.tmp 7) (Go.Operand.const (Go.Value.bool true)) (Go.Operand.tmp 9), none⟩,
  ⟨some 11, Go.Op.move (Go.Operand.tmp 10), none⟩,
  ⟨some 12, Go.Op.move (Go.Operand.tmp 1), (some (11, false))⟩,
  ⟨some 13, Go.Op.binOp Go.BinOp.lss 3 (Go.Operand.tmp 12) (Go.Operand.const (Go.Value.int Go.IntKind.i64 1)) 3, (some (11, false))⟩,
  ⟨some 14, Go.Op.pick (Go.Operand.tmp 11) (Go.Operand.const (Go.Value.bool true)) (Go.Operand.tmp 13), none⟩,
  ⟨some 15, Go.Op.move (Go.Operand.tmp 14), none⟩,
  ⟨some 16, Go.Op.move (Go.Operand.tmp 1), (some (15, false))⟩,
  ⟨some 17, Go.Op.binOp Go.BinOp.gtr 3 (Go.Operand.tmp 16) (Go.Operand.const (Go.Value.int Go.IntKind.i64 12)) 3, (some (15, false))⟩,
  ⟨some 18, Go.Op.pick (Go.Operand.tmp 15) (Go.Operand.const (Go.Value.bool true)) (Go.Operand.tmp 17), none⟩]) (.cond (Go.Operand.tmp 18) (.seq (.reg []
  [⟨some 4, Go.Op.assign (Go.Operand.const (Go.Value.int Go.IntKind.i64 0)), none⟩]) (.ret)) (.skip))) (.seq (.seq (.reg []
  [⟨some 19, Go.Op.move (Go.Operand.tmp 1), none⟩,
  ⟨some 20, Go.Op.binOp Go.BinOp.eql 3 (Go.Operand.tmp 19) (Go.Operand.const (Go.Value.int Go.IntKind.i64 2)) 3, none⟩,
  ⟨some 21, Go.Op.move (Go.Operand.tmp 20), none⟩,
  ⟨some 22, Go.Op.move (Go.Operand.tmp 0), (some (21, true))⟩,
  ⟨some 23, Go.Op.call { callee := Go.Callee.value (Go.Operand.func 29), args := #[Go.Operand.tmp 22], argTypes := #[3] }, (some (21, true))⟩,
  ⟨some 24, Go.Op.pick (Go.Operand.tmp 21) (Go.Operand.tmp 23) (Go.Operand.const (Go.Value.bool false)), none⟩]) (.cond (Go.Operand.tmp 24) (.seq (.reg []
  [⟨some 4, Go.Op.assign (Go.Operand.const (Go.Value.int Go.IntKind.i64 29)), none⟩]) (.ret)) (.skip))) (.seq (.reg []
  [⟨some 25, Go.Op.move (Go.Operand.tmp 1), none⟩,
  ⟨some 26, Go.Op.binOp Go.BinOp.sub 3 (Go.Operand.tmp 25) (Go.Operand.const (Go.Value.int Go.IntKind.i64 1)) 3, none⟩,
  ⟨some 27, Go.Op.indexAddr 56 (Go.Operand.global 0) (Go.Operand.tmp 26), none⟩,
  ⟨some 28, Go.Op.load 3 (Go.Operand.tmp 27), none⟩,
  ⟨some 4, Go.Op.assign (Go.Operand.tmp 28), none⟩]) (.ret))))
def mj17_0 : List Nat := [2, 3, 4, 5, 6, 7, 8, 9, 10, 11, 12, 13, 14, 15, 16, 17, 18]
def mj17_1 : List Nat := [0, 2, 3, 4, 5, 6, 7, 8, 9, 10, 11, 12, 13, 14, 15, 16, 17, 18, 19, 20, 21, 22, 23, 24]
theorem ls17 : Tryd.f17.body.map (strip Tryd.prog impCodA) = some lc17 := by kernel_rfl
theorem lcall17 {args : List AV} (hargs : args.length ≤ 29) {H0 : AHeap} (lo : Nat) (hlo : H0.length ≤ lo) {r0 : AV} {H0' : AHeap}
    (h : lavc Tryd.prog glob lc17 (args ++ List.replicate (29 - args.length) (.v undef)) H0 fun e t H => (e = .normal ∨ e = .ret) ∧ aret Tryd.prog t H [Go.ResultVar.tmp 4] fun r => Fin lo H r r0 H0') :
    ACall Tryd.prog glob (H0.length == 0) 17 args H0 r0 H0' := LCall' ctx Tryd.func17 (by kernel_rfl) ls17 (by kernel_rfl) (by kernel_rfl) hargs lo hlo h
theorem lcallk17 {args : List AV} (hargs : args.length ≤ 29) {H0 : AHeap} {r0 : AV} {H0' : AHeap}
    (h : lavc Tryd.prog glob lc17 (args ++ List.replicate (29 - args.length) (.v undef)) H0 fun e t H => (e = .normal ∨ e = .ret) ∧ aret Tryd.prog t H [Go.ResultVar.tmp 4] fun r => r = r0 ∧ H = H0') :
    ACall Tryd.prog glob false 17 args H0 r0 H0' := LCallK' ctx Tryd.func17 (by kernel_rfl) ls17 (by kernel_rfl) (by kernel_rfl) hargs h
/-- escutcheon/escutcheonref21.Seconds -/
def lc18 : LCode := .seq (.reg []
  [⟨some 12, Go.Op.assign (Go.Operand.const (Go.Value.int Go.IntKind.i64 0)), none⟩]) (.seq (.reg []
  [⟨some 13, Go.Op.assign (Go.Operand.const (Go.Value.int Go.IntKind.i64 0)), none⟩]) (.seq (.seq (.reg []
  [⟨some 14, Go.Op.assign (Go.Operand.const (Go.Value.int Go.IntKind.i64 1970)), none⟩]) (.block 0 (.loop (.seq (.seq (.reg []
  [⟨some 17, Go.Op.move (Go.Operand.tmp 14), none⟩,
  ⟨some 18, Go.Op.move (Go.Operand.tmp 0), none⟩,
  ⟨some 19, Go.Op.binOp Go.BinOp.lss 3 (Go.Operand.tmp 17) (Go.Operand.tmp 18) 3, none⟩]) (.cond (Go.Operand.tmp 19) (.skip) (.exit 0))) (.seq (.block 1 (.reg []
  [⟨some 22, Go.Op.move (Go.Operand.tmp 13), none⟩,
  ⟨some 23, Go.Op.move (Go.Operand.tmp 14), none⟩,
  ⟨some 24, Go.Op.call { callee := Go.Callee.value (Go.Operand.func 30), args := #[Go.Operand.tmp 23], argTypes := #[3] }, none⟩,
  ⟨some 25, Go.Op.binOp Go.BinOp.add 3 (Go.Operand.tmp 22) (Go.Operand.tmp 24) 3, none⟩,
  ⟨some 13, Go.Op.assign (Go.Operand.tmp 25), none⟩])) (.reg []
  [⟨some 20, Go.Op.move (Go.Operand.tmp 14), none⟩,
  ⟨some 21, Go.Op.binOp Go.BinOp.add 3 (Go.Operand.tmp 20) (Go.Operand.const (Go.Value.int Go.IntKind.i64 1)) 3, none⟩,
  ⟨some 14, Go.Op.assign (Go.Operand.tmp 21), none⟩])))))) (.seq (.seq (.reg []
  [⟨some 26, Go.Op.move (Go.Operand.tmp 0), none⟩,
  ⟨some 15, Go.Op.assign (Go.Operand.tmp 26), none⟩]) (.block 2 (.loop (.seq (.seq (.reg []
  [⟨some 27, Go.Op.move (Go.Operand.tmp 15), none⟩,
  ⟨some 28, Go.Op.binOp Go.BinOp.lss 3 (Go.Operand.tmp 27) (Go.Operand.const (Go.Value.int Go.IntKind.i64 1970)) 3, none⟩]) (.cond (Go.Operand.tmp 28) (.skip) (.exit 2))) (.seq (.block 3 (.reg []
  [⟨some 31, Go.Op.move (Go.Operand.tmp 13), none⟩,
  ⟨some 32, Go.Op.move (Go.Operand.tmp 15), none⟩,
  ⟨some 33, Go.Op.call { callee := Go.Callee.value (Go.Operand.func 30), args := #[Go.Operand.tmp 32], argTypes := #[3] }, none⟩,
  ⟨some 34, Go.Op.binOp Go.BinOp.sub 3 (Go.Operand.tmp 31) (Go.Operand.tmp 33) 3, none⟩,
  ⟨some 13, Go.Op.assign (Go.Operand.tmp 34), none⟩])) (.reg []
  [⟨some 29, Go.Op.move (Go.Operand.tmp 15), none⟩,
  ⟨some 30, Go.Op.binOp Go.BinOp.add 3 (Go.Operand.tmp 29) (Go.Operand.const (Go.Value.int Go.IntKind.i64 1)) 3, none⟩,
  ⟨some 15, Go.Op.assign (Go.Operand.tmp 30), none⟩])))))) (.seq (.seq (.reg []
  [⟨some 16, Go.Op.assign (Go.Operand.const (Go.Value.int Go.IntKind.i64 1)), none⟩]) (.block 4 (.loop (.seq (.seq (.reg []
  [⟨some 35, Go.Op.move (Go.Operand.tmp 16), none⟩,
  ⟨some 36, Go.Op.move (Go.Operand.tmp 1), none⟩,
  ⟨some 37, Go.Op.binOp Go.BinOp.lss 3 (Go.Operand.tmp 35) (Go.Operand.tmp 36) 3, none⟩]) (.cond (Go.Operand.tmp 37) (.skip) (.exit 4))) (.seq (.block 5 (.reg []
  [⟨some 40, Go.Op.move (Go.Operand.tmp 13), none⟩,
  ⟨some 41, Go.Op.move (Go.Operand.tmp 0), none⟩,
  ⟨some 42, Go.Op.move (Go.Operand.tmp 16), none⟩,
  ⟨some 43, Go.Op.call { callee := Go.Callee.value (Go.Operand.func 16), args := #[Go.Operand.tmp 41, Go.Operand.tmp 42], argTypes := #[3, 3] }, none⟩,
  ⟨some 44, Go.Op.binOp Go.BinOp.add 3 (Go.Operand.tmp 40) (Go.Operand.tmp 43) 3, none⟩,
  ⟨some 13, Go.Op.assign (Go.Operand.tmp 44), none⟩])) (.reg []
  [⟨some 38, Go.Op.move (Go.Operand.tmp 16), none⟩,
  ⟨some 39, Go.Op.binOp Go.BinOp.add 3 (Go.Operand.tmp 38) (Go.Operand.const (Go.Value.int Go.IntKind.i64 1)) 3, none⟩,
  ⟨some 16, Go.Op.assign (Go.Operand.tmp 39), none⟩])))))) (.seq (.reg []
  [⟨some 45, Go.Op.move (Go.Operand.tmp 13), none⟩,
  ⟨some 46, Go.Op.move (Go.Operand.tmp 2), none⟩,
  ⟨some 47, Go.Op.binOp Go.BinOp.add 3 (Go.Operand.tmp 45) (Go.Operand.tmp 46) 3, none⟩,
  ⟨some 48, Go.Op.binOp Go.BinOp.sub 3 (Go.Operand.tmp 47) (Go.Operand.const (Go.Value.int Go.IntKind.i64 1)) 3, none⟩,
  ⟨some 49, Go.Op.binOp Go.BinOp.mul 3 (Go.Operand.tmp 48) (Go.Operand.const (Go.Value.int Go.IntKind.i64 24)) 3, none⟩,
  ⟨some 50, Go.Op.move (Go.Operand.tmp 3), none⟩,
  ⟨some 51, Go.Op.binOp Go.BinOp.add 3 (Go.Operand.tmp 49) (Go.Operand.tmp 50) 3, none⟩,
  ⟨some 52, Go.Op.binOp Go.BinOp.mul 3 (Go.Operand.tmp 51) (Go.Operand.const (Go.Value.int Go.IntKind.i64 3600)) 3, none⟩,
  ⟨some 53, Go.Op.move (Go.Operand.tmp 4), none⟩,
  ⟨some 54, Go.Op.binOp Go.BinOp.mul 3 (Go.Operand.tmp 53) (Go.Operand.const (Go.Value.int Go.IntKind.i64 60)) 3, none⟩,
  ⟨some 55, Go.Op.binOp Go.BinOp.add 3 (Go.Operand.tmp 52) (Go.Operand.tmp 54) 3, none⟩,
  ⟨some 56, Go.Op.move (Go.Operand.tmp 5), none⟩,
  ⟨some 57, Go.Op.binOp Go.BinOp.add 3 (Go.Operand.tmp 55) (Go.Operand.tmp 56) 3, none⟩,
  ⟨some 12, Go.Op.assign (Go.Operand.tmp 57), none⟩]) (.ret))))))
def ms18_0 : List Nat := [6, 7, 8, 9, 10, 11, 13, 14, 17, 18, 19, 20, 21, 22, 23, 24, 25]
def ms18_1 : List Nat := [6, 7, 8, 9, 10, 11, 13, 14, 15, 17, 18, 19, 20, 21, 22, 23, 24, 25, 26, 27, 28, 29, 30, 31, 32, 33, 34]
def ms18_2 : List Nat := [6, 7, 8, 9, 10, 11, 13, 14, 15, 16, 17, 18, 19, 20, 21, 22, 23, 24, 25, 26, 27, 28, 29, 30, 31, 32, 33, 34, 35, 36, 37, 38, 39, 40, 41, 42, 43, 44]
def mj18_0 : List Nat := [6, 7, 8, 9, 10, 11]
def mj18_1 : List Nat := [6, 7, 8, 9, 10, 11, 14, 17, 18, 19, 20, 21, 22, 23, 24, 25, 26]
def mj18_2 : List Nat := [6, 7, 8, 9, 10, 11, 14, 15, 17, 18, 19, 20, 21, 22, 23, 24, 25, 26, 27, 28, 29, 30, 31, 32, 33, 34]
theorem ls18 : Tryd.f18.body.map (strip Tryd.prog impCodA) = some lc18 := by kernel_rfl
theorem lcall18 {args : List AV} (hargs : args.length ≤ 58) {H0 : AHeap} (lo : Nat) (hlo : H0.length ≤ lo) {r0 : AV} {H0' : AHeap}
    (h : lavc Tryd.prog glob lc18 (args ++ List.replicate (58 - args.length) (.v undef)) H0 fun e t H => (e = .normal ∨ e = .ret) ∧ aret Tryd.prog t H [Go.ResultVar.tmp 12] fun r => Fin lo H r r0 H0') :
    ACall Tryd.prog glob (H0.length == 0) 18 args H0 r0 H0' := LCall' ctx Tryd.func18 (by kernel_rfl) ls18 (by kernel_rfl) (by kernel_rfl) hargs lo hlo h
theorem lcallk18 {args : List AV} (hargs : args.length ≤ 58) {H0 : AHeap} {r0 : AV} {H0' : AHeap}
    (h : lavc Tryd.prog glob lc18 (args ++ List.replicate (58 - args.length) (.v undef)) H0 fun e t H => (e = .normal ∨ e = .ret) ∧ aret Tryd.prog t H [Go.ResultVar.tmp 12] fun r => r = r0 ∧ H = H0') :
    ACall Tryd.prog glob false 18 args H0 r0 H0' := LCallK' ctx Tryd.func18 (by kernel_rfl) ls18 (by kernel_rfl) (by kernel_rfl) hargs h
/-- escutcheon/hour.fits -/
def lc19 : LCode := .seq (.reg []
  [⟨some 4, Go.Op.assign (Go.Operand.const (Go.Value.bool false)), none⟩]) (.seq (.seq (.reg []
  [⟨some 7, Go.Op.move (Go.Operand.tmp 0), none⟩,
  ⟨some 8, Go.Op.call { callee := Go.Callee.builtin Go.Builtin.len, args := #[Go.Operand.tmp 7], argTypes := #[9] }, none⟩,
  ⟨some 9, Go.Op.move (Go.Operand.const (Go.Value.int Go.IntKind.i64 0)), none⟩]) (.block 0 (.loop (.seq (.reg []
  [⟨some 10, Go.Op.binOp Go.BinOp.lss 3 (Go.Operand.tmp 9) (Go.Operand.tmp 8) 3, none⟩]) (.seq (.cond (Go.Operand.tmp 10) (.skip) (.exit 0)) (.seq (.block 1 (.seq (.reg []
  [⟨some 11, Go.Op.move (Go.Operand.tmp 9), none⟩,
  ⟨some 5, Go.Op.assign (Go.Operand.tmp 11), none⟩]) (.seq (.reg []
  [⟨some 12, Go.Op.move (Go.Operand.tmp 0), none⟩,
  ⟨some 13, Go.Op.move (Go.Operand.tmp 5), none⟩,
  ⟨some 14, Go.Op.index 9 (Go.Operand.tmp 12) (Go.Operand.tmp 13), none⟩,
  ⟨some 15, Go.Op.binOp Go.BinOp.geq 5 (Go.Operand.tmp 14) (Go.Operand.const (Go.Value.int Go.IntKind.u8 48)) 5, none⟩,
  ⟨some 16, Go.Op.move (Go.Operand.tmp 15), none⟩,
  ⟨some 17, Go.Op.move (Go.Operand.tmp 0), (some (16, true))⟩,
  ⟨some 18, Go.Op.move (Go.Operand.tmp 5), (some (16, true))⟩,
  ⟨some 19, Go.Op.index 9 (Go.Operand.tmp 17) (Go.Operand.tmp 18), (some (16, true))⟩,
  ⟨some 20, Go.Op.binOp Go.BinOp.leq 5 (Go.Operand.tmp 19) (Go.Operand.const (Go.Value.int Go.IntKind.u8 57)) 5, (some (16, true))⟩,
  ⟨some 21, Go.Op.pick (Go.Operand.tmp 16) (Go.Operand.tmp 20) (Go.Operand.const (Go.Value.bool false)), none⟩,
  ⟨some 6, Go.Op.assign (Go.Operand.tmp 21), none⟩]) (.seq (.reg [⟨some 22, Go.Op.move (Go.Operand.tmp 5), none⟩,
  ⟨some 23, Go.Op.move (Go.Operand.tmp 1), none⟩,
  ⟨some 24, Go.Op.call { callee := Go.Callee.builtin Go.Builtin.len, args := #[Go.Operand.tmp 23], argTypes := #[9] }, none⟩,
  ⟨some 25, Go.Op.binOp Go.BinOp.geq 3 (Go.Operand.tmp 22) (Go.Operand.tmp 24) 3, none⟩,
  ⟨some 26, Go.Op.move (Go.Operand.tmp 25), none⟩,
  ⟨some 27, Go.Op.move (Go.Operand.tmp 6), (some (26, false))⟩,
  ⟨some 28, Go.Op.move (Go.Operand.tmp 1), (some (26, false))⟩,
  ⟨some 29, Go.Op.move (Go.Operand.tmp 5), (some (26, false))⟩,
  ⟨some 30, Go.Op.index 9 (Go.Operand.tmp 28) (Go.Operand.tmp 29), (some (26, false))⟩,
  ⟨some 31, Go.Op.binOp Go.BinOp.eql 5 (Go.Operand.tmp 30) (Go.Operand.const (Go.Value.int Go.IntKind.u8 100)) 5, (some (26, false))⟩,
  ⟨some 32, Go.Op.binOp Go.BinOp.neq 4 (Go.Operand.tmp 27) (Go.Operand.tmp 31) 4, (some (26, false))⟩,
  ⟨some 33, Go.Op.pick (Go.Operand.tmp 26) (Go.Operand.const (Go.Value.bool true)) (Go.Operand.tmp 32), none⟩,
  ⟨some 34, Go.Op.move (Go.Operand.tmp 33), none⟩,
  ⟨some 35, Go.Op.move (Go.Operand.tmp 6), (some (34, false))⟩,
  ⟨some 36, Go.Op.unOp Go.UnOp.not 4 (Go.Operand.tmp 35), (some (34, false))⟩,
  ⟨some 37, Go.Op.move (Go.Operand.tmp 36), (some (34, false))⟩,
  ⟨some 38, Go.Op.move (Go.Operand.tmp 0), (some (37, true))⟩,
  ⟨some 39, Go.Op.move (Go.Operand.tmp 5), (some (37, true))⟩,
  ⟨some 40, Go.Op.index 9 (Go.Operand.tmp 38) (Go.Operand.tmp 39), (some (37, true))⟩,
  ⟨some 41, Go.Op.move (Go.Operand.tmp 1), (some (37, true))⟩,
  ⟨some 42, Go.Op.move (Go.Operand.tmp 5), (some (37, true))⟩,
  ⟨some 43, Go.Op.index 9 (Go.Operand.tmp 41) (Go.Operand.tmp 42), (some (37, true))⟩,
  ⟨some 44, Go.Op.binOp Go.BinOp.neq 5 (Go.Operand.tmp 40) (Go.Operand.tmp 43) 5, (some (37, true))⟩,
  ⟨some 45, Go.Op.pick (Go.Operand.tmp 37) (Go.Operand.tmp 44) (Go.Operand.const (Go.Value.bool false)), (some (34, false))⟩,
  ⟨some 46, Go.Op.pick (Go.Operand.tmp 34) (Go.Operand.const (Go.Value.bool true)) (Go.Operand.tmp 45), none⟩]
  []) (.cond (Go.Operand.tmp 46) (.seq (.reg []
  [⟨some 4, Go.Op.assign (Go.Operand.const (Go.Value.bool false)), none⟩]) (.ret)) (.skip)))))) (.reg []
  [⟨some 47, Go.Op.binOp Go.BinOp.add 3 (Go.Operand.tmp 9) (Go.Operand.const (Go.Value.int Go.IntKind.i64 1)) 3, none⟩,
  ⟨some 9, Go.Op.move (Go.Operand.tmp 47), none⟩]))))))) (.seq (.reg []
  [⟨some 48, Go.Op.move (Go.Operand.tmp 0), none⟩,
  ⟨some 49, Go.Op.call { callee := Go.Callee.builtin Go.Builtin.len, args := #[Go.Operand.tmp 48], argTypes := #[9] }, none⟩,
  ⟨some 50, Go.Op.move (Go.Operand.tmp 1), none⟩,
  ⟨some 51, Go.Op.call { callee := Go.Callee.builtin Go.Builtin.len, args := #[Go.Operand.tmp 50], argTypes := #[9] }, none⟩,
  ⟨some 52, Go.Op.binOp Go.BinOp.eql 3 (Go.Operand.tmp 49) (Go.Operand.tmp 51) 3, none⟩,
  ⟨some 4, Go.Op.assign (Go.Operand.tmp 52), none⟩]) (.ret)))
def ms19_0 : List Nat := [2, 3, 4, 5, 6, 7, 9, 10, 11, 12, 13, 14, 15, 16, 17, 18, 19, 20, 21, 22, 23, 24, 25, 26, 27, 28, 29, 30, 31, 32, 33, 34, 35, 36, 37, 38, 39, 40, 41, 42, 43, 44, 45, 46, 47]
def mj19_0 : List Nat := [2, 3, 7]
def mj19_1 : List Nat := [2, 3, 4, 7]
theorem ls19 : Tryd.f19.body.map (strip Tryd.prog impCodA) = some lc19 := by kernel_rfl
theorem lcall19 {args : List AV} (hargs : args.length ≤ 53) {H0 : AHeap} (lo : Nat) (hlo : H0.length ≤ lo) {r0 : AV} {H0' : AHeap}
    (h : lavc Tryd.prog glob lc19 (args ++ List.replicate (53 - args.length) (.v undef)) H0 fun e t H => (e = .normal ∨ e = .ret) ∧ aret Tryd.prog t H [Go.ResultVar.tmp 4] fun r => Fin lo H r r0 H0') :
    ACall Tryd.prog glob (H0.length == 0) 19 args H0 r0 H0' := LCall' ctx Tryd.func19 (by kernel_rfl) ls19 (by kernel_rfl) (by kernel_rfl) hargs lo hlo h
theorem lcallk19 {args : List AV} (hargs : args.length ≤ 53) {H0 : AHeap} {r0 : AV} {H0' : AHeap}
    (h : lavc Tryd.prog glob lc19 (args ++ List.replicate (53 - args.length) (.v undef)) H0 fun e t H => (e = .normal ∨ e = .ret) ∧ aret Tryd.prog t H [Go.ResultVar.tmp 4] fun r => r = r0 ∧ H = H0') :
    ACall Tryd.prog glob false 19 args H0 r0 H0' := LCallK' ctx Tryd.func19 (by kernel_rfl) ls19 (by kernel_rfl) (by kernel_rfl) hargs h
/-- escutcheon/hour.number -/
def lc20 : LCode := .seq (.reg []
  [⟨some 2, Go.Op.assign (Go.Operand.const (Go.Value.int Go.IntKind.i64 0)), none⟩]) (.seq (.reg []
  [⟨some 6, Go.Op.move (Go.Operand.tmp 0), none⟩,
  ⟨some 7, Go.Op.call { callee := Go.Callee.value (Go.Operand.func 31), args := #[Go.Operand.tmp 6], argTypes := #[9] }, none⟩,
  ⟨some 5, Go.Op.move (Go.Operand.tmp 7), none⟩,
  ⟨some 8, Go.Op.extract (Go.Operand.tmp 5) 0, none⟩,
  ⟨some 9, Go.Op.extract (Go.Operand.tmp 5) 1, none⟩,
  ⟨some 3, Go.Op.assign (Go.Operand.tmp 8), none⟩,
  ⟨some 4, Go.Op.assign (Go.Operand.tmp 9), none⟩]) (.seq (.reg []
  [⟨some 10, Go.Op.move (Go.Operand.tmp 3), none⟩,
  ⟨some 2, Go.Op.assign (Go.Operand.tmp 10), none⟩]) (.ret)))
theorem ls20 : Tryd.f20.body.map (strip Tryd.prog impCodA) = some lc20 := by kernel_rfl
theorem lcall20 {args : List AV} (hargs : args.length ≤ 11) {H0 : AHeap} (lo : Nat) (hlo : H0.length ≤ lo) {r0 : AV} {H0' : AHeap}
    (h : lavc Tryd.prog glob lc20 (args ++ List.replicate (11 - args.length) (.v undef)) H0 fun e t H => (e = .normal ∨ e = .ret) ∧ aret Tryd.prog t H [Go.ResultVar.tmp 2] fun r => Fin lo H r r0 H0') :
    ACall Tryd.prog glob (H0.length == 0) 20 args H0 r0 H0' := LCall' ctx Tryd.func20 (by kernel_rfl) ls20 (by kernel_rfl) (by kernel_rfl) hargs lo hlo h
theorem lcallk20 {args : List AV} (hargs : args.length ≤ 11) {H0 : AHeap} {r0 : AV} {H0' : AHeap}
    (h : lavc Tryd.prog glob lc20 (args ++ List.replicate (11 - args.length) (.v undef)) H0 fun e t H => (e = .normal ∨ e = .ret) ∧ aret Tryd.prog t H [Go.ResultVar.tmp 2] fun r => r = r0 ∧ H = H0') :
    ACall Tryd.prog glob false 20 args H0 r0 H0' := LCallK' ctx Tryd.func20 (by kernel_rfl) ls20 (by kernel_rfl) (by kernel_rfl) hargs h
/-- (escutcheon/hour.moment).good -/
def lc21 : LCode := .seq (.reg []
  [⟨some 1, Go.Op.box 44 (Go.Operand.tmp 0), none⟩,
  ⟨some 2, Go.Op.assign (Go.Operand.const (Go.Value.bool false)), none⟩]) (.seq (.reg [⟨some 3, Go.Op.fieldAddr 44 (Go.Operand.tmp 1) 0, none⟩,
  ⟨some 4, Go.Op.fieldAddr 42 (Go.Operand.tmp 3) 1, none⟩,
  ⟨some 5, Go.Op.load 3 (Go.Operand.tmp 4), none⟩,
  ⟨some 6, Go.Op.binOp Go.BinOp.geq 3 (Go.Operand.tmp 5) (Go.Operand.const (Go.Value.int Go.IntKind.i64 1)) 3, none⟩,
  ⟨some 7, Go.Op.move (Go.Operand.tmp 6), none⟩,
  ⟨some 8, Go.Op.fieldAddr 44 (Go.Operand.tmp 1) 0, (some (7, true))⟩,
  ⟨some 9, Go.Op.fieldAddr 42 (Go.Operand.tmp 8) 1, (some (7, true))⟩,
  ⟨some 10, Go.Op.load 3 (Go.Operand.tmp 9), (some (7, true))⟩,
  ⟨some 11, Go.Op.binOp Go.BinOp.leq 3 (Go.Operand.tmp 10) (Go.Operand.const (Go.Value.int Go.IntKind.i64 12)) 3, (some (7, true))⟩,
  ⟨some 12, Go.Op.pick (Go.Operand.tmp 7) (Go.Operand.tmp 11) (Go.Operand.const (Go.Value.bool false)), none⟩,
  ⟨some 13, Go.Op.move (Go.Operand.tmp 12), none⟩,
  ⟨some 14, Go.Op.fieldAddr 44 (Go.Operand.tmp 1) 0, (some (13, true))⟩,
  ⟨some 15, Go.Op.fieldAddr 42 (Go.Operand.tmp 14) 2, (some (13, true))⟩,
  ⟨some 16, Go.Op.load 3 (Go.Operand.tmp 15), (some (13, true))⟩,
  ⟨some 17, Go.Op.binOp Go.BinOp.geq 3 (Go.Operand.tmp 16) (Go.Operand.const (Go.Value.int Go.IntKind.i64 1)) 3, (some (13, true))⟩,
  ⟨some 18, Go.Op.pick (Go.Operand.tmp 13) (Go.Operand.tmp 17) (Go.Operand.const (Go.Value.bool false)), none⟩,
  ⟨some 19, Go.Op.move (Go.Operand.tmp 18), none⟩,
  ⟨some 20, Go.Op.fieldAddr 44 (Go.Operand.tmp 1) 0, (some (19, true))⟩,
  ⟨some 21, Go.Op.fieldAddr 42 (Go.Operand.tmp 20) 2, (some (19, true))⟩,
  ⟨some 22, Go.Op.load 3 (Go.Operand.tmp 21), (some (19, true))⟩,
  ⟨some 23, Go.Op.fieldAddr 44 (Go.Operand.tmp 1) 0, (some (19, true))⟩,
  ⟨some 24, Go.Op.fieldAddr 42 (Go.Operand.tmp 23) 0, (some (19, true))⟩,
  ⟨some 25, Go.Op.load 3 (Go.Operand.tmp 24), (some (19, true))⟩,
  ⟨some 26, Go.Op.fieldAddr 44 (Go.Operand.tmp 1) 0, (some (19, true))⟩,
  ⟨some 27, Go.Op.fieldAddr 42 (Go.Operand.tmp 26) 1, (some (19, true))⟩,
  ⟨some 28, Go.Op.load 3 (Go.Operand.tmp 27), (some (19, true))⟩,
  ⟨some 29, Go.Op.call { callee := Go.Callee.value (Go.Operand.func 17), args := #[Go.Operand.tmp 25, Go.Operand.tmp 28], argTypes := #[3, 3] }, (some (19, true))⟩,
  ⟨some 30, Go.Op.binOp Go.BinOp.leq 3 (Go.Operand.tmp 22) (Go.Operand.tmp 29) 3, (some (19, true))⟩,
  ⟨some 31, Go.Op.pick (Go.Operand.tmp 19) (Go.Operand.tmp 30) (Go.Operand.const (Go.Value.bool false)), none⟩,
  ⟨some 32, Go.Op.move (Go.Operand.tmp 31), none⟩,
  ⟨some 33, Go.Op.fieldAddr 44 (Go.Operand.tmp 1) 1, (some (32, true))⟩,
  ⟨some 34, Go.Op.load 3 (Go.Operand.tmp 33), (some (32, true))⟩,
  ⟨some 35, Go.Op.binOp Go.BinOp.leq 3 (Go.Operand.tmp 34) (Go.Operand.const (Go.Value.int Go.IntKind.i64 23)) 3, (some (32, true))⟩,
  ⟨some 36, Go.Op.pick (Go.Operand.tmp 32) (Go.Operand.tmp 35) (Go.Operand.const (Go.Value.bool false)), none⟩,
  ⟨some 37, Go.Op.move (Go.Operand.tmp 36), none⟩,
  ⟨some 38, Go.Op.fieldAddr 44 (Go.Operand.tmp 1) 2, (some (37, true))⟩,
  ⟨some 39, Go.Op.load 3 (Go.Operand.tmp 38), (some (37, true))⟩,
  ⟨some 40, Go.Op.binOp Go.BinOp.leq 3 (Go.Operand.tmp 39) (Go.Operand.const (Go.Value.int Go.IntKind.i64 59)) 3, (some (37, true))⟩,
  ⟨some 41, Go.Op.pick (Go.Operand.tmp 37) (Go.Operand.tmp 40) (Go.Operand.const (Go.Value.bool false)), none⟩,
  ⟨some 42, Go.Op.move (Go.Operand.tmp 41), none⟩,
  ⟨some 43, Go.Op.fieldAddr 44 (Go.Operand.tmp 1) 3, (some (42, true))⟩,
  ⟨some 44, Go.Op.load 3 (Go.Operand.tmp 43), (some (42, true))⟩,
  ⟨some 45, Go.Op.binOp Go.BinOp.leq 3 (Go.Operand.tmp 44) (Go.Operand.const (Go.Value.int Go.IntKind.i64 59)) 3, (some (42, true))⟩,
  ⟨some 46, Go.Op.pick (Go.Operand.tmp 42) (Go.Operand.tmp 45) (Go.Operand.const (Go.Value.bool false)), none⟩,
  ⟨some 2, Go.Op.assign (Go.Operand.tmp 46), none⟩]
  []) (.ret))
theorem ls21 : Tryd.f21.body.map (strip Tryd.prog impCodA) = some lc21 := by kernel_rfl
theorem lcall21 {args : List AV} (hargs : args.length ≤ 47) {H0 : AHeap} (lo : Nat) (hlo : H0.length ≤ lo) {r0 : AV} {H0' : AHeap}
    (h : lavc Tryd.prog glob lc21 (args ++ List.replicate (47 - args.length) (.v undef)) H0 fun e t H => (e = .normal ∨ e = .ret) ∧ aret Tryd.prog t H [Go.ResultVar.tmp 2] fun r => Fin lo H r r0 H0') :
    ACall Tryd.prog glob (H0.length == 0) 21 args H0 r0 H0' := LCall' ctx Tryd.func21 (by kernel_rfl) ls21 (by kernel_rfl) (by kernel_rfl) hargs lo hlo h
theorem lcallk21 {args : List AV} (hargs : args.length ≤ 47) {H0 : AHeap} {r0 : AV} {H0' : AHeap}
    (h : lavc Tryd.prog glob lc21 (args ++ List.replicate (47 - args.length) (.v undef)) H0 fun e t H => (e = .normal ∨ e = .ret) ∧ aret Tryd.prog t H [Go.ResultVar.tmp 2] fun r => r = r0 ∧ H = H0') :
    ACall Tryd.prog glob false 21 args H0 r0 H0' := LCallK' ctx Tryd.func21 (by kernel_rfl) ls21 (by kernel_rfl) (by kernel_rfl) hargs h
/-- escutcheon/hour.time -/
def lc22 : LCode := .seq (.reg []
  [⟨some 2, Go.Op.assign (Go.Operand.const (Go.Value.bool false)), none⟩]) (.seq (.reg []
  [⟨some 3, Go.Op.move (Go.Operand.tmp 0), none⟩,
  ⟨some 4, Go.Op.call { callee := Go.Callee.value (Go.Operand.func 32), args := #[], argTypes := #[] }, none⟩,
  ⟨some 5, Go.Op.binOp Go.BinOp.geq 3 (Go.Operand.tmp 3) (Go.Operand.tmp 4) 3, none⟩,
  ⟨some 6, Go.Op.move (Go.Operand.tmp 5), none⟩,
  ⟨some 7, Go.Op.move (Go.Operand.tmp 0), (some (6, true))⟩,
  ⟨some 8, Go.Op.call { callee := Go.Callee.value (Go.Operand.func 33), args := #[], argTypes := #[] }, (some (6, true))⟩,
  ⟨some 9, Go.Op.binOp Go.BinOp.leq 3 (Go.Operand.tmp 7) (Go.Operand.tmp 8) 3, (some (6, true))⟩,
  ⟨some 10, Go.Op.pick (Go.Operand.tmp 6) (Go.Operand.tmp 9) (Go.Operand.const (Go.Value.bool false)), none⟩,
  ⟨some 2, Go.Op.assign (Go.Operand.tmp 10), none⟩]) (.ret))
theorem ls22 : Tryd.f22.body.map (strip Tryd.prog impCodA) = some lc22 := by kernel_rfl
theorem lcall22 {args : List AV} (hargs : args.length ≤ 11) {H0 : AHeap} (lo : Nat) (hlo : H0.length ≤ lo) {r0 : AV} {H0' : AHeap}
    (h : lavc Tryd.prog glob lc22 (args ++ List.replicate (11 - args.length) (.v undef)) H0 fun e t H => (e = .normal ∨ e = .ret) ∧ aret Tryd.prog t H [Go.ResultVar.tmp 2] fun r => Fin lo H r r0 H0') :
    ACall Tryd.prog glob (H0.length == 0) 22 args H0 r0 H0' := LCall' ctx Tryd.func22 (by kernel_rfl) ls22 (by kernel_rfl) (by kernel_rfl) hargs lo hlo h
theorem lcallk22 {args : List AV} (hargs : args.length ≤ 11) {H0 : AHeap} {r0 : AV} {H0' : AHeap}
    (h : lavc Tryd.prog glob lc22 (args ++ List.replicate (11 - args.length) (.v undef)) H0 fun e t H => (e = .normal ∨ e = .ret) ∧ aret Tryd.prog t H [Go.ResultVar.tmp 2] fun r => r = r0 ∧ H = H0') :
    ACall Tryd.prog glob false 22 args H0 r0 H0' := LCallK' ctx Tryd.func22 (by kernel_rfl) ls22 (by kernel_rfl) (by kernel_rfl) hargs h
/-- (escutcheon/hour.moment).seconds -/
def lc23 : LCode := .seq (.reg []
  [⟨some 1, Go.Op.box 44 (Go.Operand.tmp 0), none⟩,
  ⟨some 2, Go.Op.assign (Go.Operand.const (Go.Value.int Go.IntKind.i64 0)), none⟩]) (.seq (.reg [⟨some 3, Go.Op.fieldAddr 44 (Go.Operand.tmp 1) 0, none⟩,
  ⟨some 4, Go.Op.load 42 (Go.Operand.tmp 3), none⟩,
  ⟨some 5, Go.Op.call { callee := Go.Callee.value (Go.Operand.func 34), args := #[Go.Operand.tmp 4], argTypes := #[42] }, none⟩,
  ⟨some 6, Go.Op.binOp Go.BinOp.sub 3 (Go.Operand.tmp 5) (Go.Operand.const (Go.Value.int Go.IntKind.i64 719528)) 3, none⟩,
  ⟨some 7, Go.Op.binOp Go.BinOp.mul 3 (Go.Operand.tmp 6) (Go.Operand.const (Go.Value.int Go.IntKind.i64 86400)) 3, none⟩,
  ⟨some 8, Go.Op.fieldAddr 44 (Go.Operand.tmp 1) 1, none⟩,
  ⟨some 9, Go.Op.load 3 (Go.Operand.tmp 8), none⟩,
  ⟨some 10, Go.Op.binOp Go.BinOp.mul 3 (Go.Operand.tmp 9) (Go.Operand.const (Go.Value.int Go.IntKind.i64 3600)) 3, none⟩,
  ⟨some 11, Go.Op.binOp Go.BinOp.add 3 (Go.Operand.tmp 7) (Go.Operand.tmp 10) 3, none⟩,
  ⟨some 12, Go.Op.fieldAddr 44 (Go.Operand.tmp 1) 2, none⟩,
  ⟨some 13, Go.Op.load 3 (Go.Operand.tmp 12), none⟩,
  ⟨some 14, Go.Op.binOp Go.BinOp.mul 3 (Go.Operand.tmp 13) (Go.Operand.const (Go.Value.int Go.IntKind.i64 60)) 3, none⟩,
  ⟨some 15, Go.Op.binOp Go.BinOp.add 3 (Go.Operand.tmp 11) (Go.Operand.tmp 14) 3, none⟩,
  ⟨some 16, Go.Op.fieldAddr 44 (Go.Operand.tmp 1) 3, none⟩,
  ⟨some 17, Go.Op.load 3 (Go.Operand.tmp 16), none⟩,
  ⟨some 18, Go.Op.binOp Go.BinOp.add 3 (Go.Operand.tmp 15) (Go.Operand.tmp 17) 3, none⟩,
  ⟨some 2, Go.Op.assign (Go.Operand.tmp 18), none⟩]
  []) (.ret))
theorem ls23 : Tryd.f23.body.map (strip Tryd.prog impCodA) = some lc23 := by kernel_rfl
theorem lcall23 {args : List AV} (hargs : args.length ≤ 19) {H0 : AHeap} (lo : Nat) (hlo : H0.length ≤ lo) {r0 : AV} {H0' : AHeap}
    (h : lavc Tryd.prog glob lc23 (args ++ List.replicate (19 - args.length) (.v undef)) H0 fun e t H => (e = .normal ∨ e = .ret) ∧ aret Tryd.prog t H [Go.ResultVar.tmp 2] fun r => Fin lo H r r0 H0') :
    ACall Tryd.prog glob (H0.length == 0) 23 args H0 r0 H0' := LCall' ctx Tryd.func23 (by kernel_rfl) ls23 (by kernel_rfl) (by kernel_rfl) hargs lo hlo h
theorem lcallk23 {args : List AV} (hargs : args.length ≤ 19) {H0 : AHeap} {r0 : AV} {H0' : AHeap}
    (h : lavc Tryd.prog glob lc23 (args ++ List.replicate (19 - args.length) (.v undef)) H0 fun e t H => (e = .normal ∨ e = .ret) ∧ aret Tryd.prog t H [Go.ResultVar.tmp 2] fun r => r = r0 ∧ H = H0') :
    ACall Tryd.prog glob false 23 args H0 r0 H0' := LCallK' ctx Tryd.func23 (by kernel_rfl) ls23 (by kernel_rfl) (by kernel_rfl) hargs h
/-- escutcheon/escutcheonref21.number -/
def lc24 : LCode := .seq (.reg []
  [⟨some 2, Go.Op.assign (Go.Operand.const (Go.Value.int Go.IntKind.i64 0)), none⟩]) (.seq (.reg []
  [⟨some 3, Go.Op.assign (Go.Operand.const (Go.Value.int Go.IntKind.i64 0)), none⟩]) (.seq (.seq (.reg []
  [⟨some 4, Go.Op.assign (Go.Operand.const (Go.Value.int Go.IntKind.i64 0)), none⟩]) (.block 0 (.loop (.seq (.seq (.reg []
  [⟨some 5, Go.Op.move (Go.Operand.tmp 4), none⟩,
  ⟨some 6, Go.Op.move (Go.Operand.tmp 0), none⟩,
  ⟨some 7, Go.Op.call { callee := Go.Callee.builtin Go.Builtin.len, args := #[Go.Operand.tmp 6], argTypes := #[9] }, none⟩,
  ⟨some 8, Go.Op.binOp Go.BinOp.lss 3 (Go.Operand.tmp 5) (Go.Operand.tmp 7) 3, none⟩]) (.cond (Go.Operand.tmp 8) (.skip) (.exit 0))) (.seq (.block 1 (.seq (.seq (.reg []
  [⟨some 11, Go.Op.move (Go.Operand.tmp 0), none⟩,
  ⟨some 12, Go.Op.move (Go.Operand.tmp 4), none⟩,
  ⟨some 13, Go.Op.index 9 (Go.Operand.tmp 11) (Go.Operand.tmp 12), none⟩,
  ⟨some 14, Go.Op.binOp Go.BinOp.lss 5 (Go.Operand.tmp 13) (Go.Operand.const (Go.Value.int Go.IntKind.u8 48)) 5, none⟩,
  ⟨some 15, Go.Op.move (Go.Operand.tmp 14), none⟩,
  ⟨some 16, Go.Op.move (Go.Operand.tmp 0), (some (15, false))⟩,
  ⟨some 17, Go.Op.move (Go.Operand.tmp 4), (some (15, false))⟩,
  ⟨some 18, Go.Op.index 9 (Go.Operand.tmp 16) (Go.Operand.tmp 17), (some (15, false))⟩,
  ⟨some 19, Go.Op.binOp Go.BinOp.gtr 5 (Go.Operand.tmp 18) (Go.Operand.const (Go.Value.int Go.IntKind.u8 57)) 5, (some (15, false))⟩,
  ⟨some 20, Go.Op.pick (Go.Operand.tmp 15) (Go.Operand.const (Go.Value.bool true)) (Go.Operand.tmp 19), none⟩]) (.cond (Go.Operand.tmp 20) (.seq (.reg []
  [⟨some 2, Go.Op.assign (Go.Operand.const (Go.Value.int Go.IntKind.i64 (-1))), none⟩]) (.ret)) (.skip))) (.reg []
  [⟨some 21, Go.Op.move (Go.Operand.tmp 3), none⟩,
  ⟨some 22, Go.Op.binOp Go.BinOp.mul 3 (Go.Operand.tmp 21) (Go.Operand.const (Go.Value.int Go.IntKind.i64 10)) 3, none⟩,
  ⟨some 23, Go.Op.move (Go.Operand.tmp 0), none⟩,
  ⟨some 24, Go.Op.move (Go.Operand.tmp 4), none⟩,
  ⟨some 25, Go.Op.index 9 (Go.Operand.tmp 23) (Go.Operand.tmp 24), none⟩,
  ⟨some 26, Go.Op.binOp Go.BinOp.sub 5 (Go.Operand.tmp 25) (Go.Operand.const (Go.Value.int Go.IntKind.u8 48)) 5, none⟩,
  ⟨some 27, Go.Op.convert 5 3 (Go.Operand.tmp 26), none⟩,
  ⟨some 28, Go.Op.binOp Go.BinOp.add 3 (Go.Operand.tmp 22) (Go.Operand.tmp 27) 3, none⟩,
  ⟨some 3, Go.Op.assign (Go.Operand.tmp 28), none⟩]))) (.reg []
  [⟨some 9, Go.Op.move (Go.Operand.tmp 4), none⟩,
  ⟨some 10, Go.Op.binOp Go.BinOp.add 3 (Go.Operand.tmp 9) (Go.Operand.const (Go.Value.int Go.IntKind.i64 1)) 3, none⟩,
  ⟨some 4, Go.Op.assign (Go.Operand.tmp 10), none⟩])))))) (.seq (.reg []
  [⟨some 29, Go.Op.move (Go.Operand.tmp 3), none⟩,
  ⟨some 2, Go.Op.assign (Go.Operand.tmp 29), none⟩]) (.ret))))
def ms24_0 : List Nat := [1, 2, 3, 4, 5, 6, 7, 8, 9, 10, 11, 12, 13, 14, 15, 16, 17, 18, 19, 20, 21, 22, 23, 24, 25, 26, 27, 28]
def mj24_0 : List Nat := [1]
def mj24_1 : List Nat := [1, 2]
theorem ls24 : Tryd.f24.body.map (strip Tryd.prog impCodA) = some lc24 := by kernel_rfl
theorem lcall24 {args : List AV} (hargs : args.length ≤ 30) {H0 : AHeap} (lo : Nat) (hlo : H0.length ≤ lo) {r0 : AV} {H0' : AHeap}
    (h : lavc Tryd.prog glob lc24 (args ++ List.replicate (30 - args.length) (.v undef)) H0 fun e t H => (e = .normal ∨ e = .ret) ∧ aret Tryd.prog t H [Go.ResultVar.tmp 2] fun r => Fin lo H r r0 H0') :
    ACall Tryd.prog glob (H0.length == 0) 24 args H0 r0 H0' := LCall' ctx Tryd.func24 (by kernel_rfl) ls24 (by kernel_rfl) (by kernel_rfl) hargs lo hlo h
theorem lcallk24 {args : List AV} (hargs : args.length ≤ 30) {H0 : AHeap} {r0 : AV} {H0' : AHeap}
    (h : lavc Tryd.prog glob lc24 (args ++ List.replicate (30 - args.length) (.v undef)) H0 fun e t H => (e = .normal ∨ e = .ret) ∧ aret Tryd.prog t H [Go.ResultVar.tmp 2] fun r => r = r0 ∧ H = H0') :
    ACall Tryd.prog glob false 24 args H0 r0 H0' := LCallK' ctx Tryd.func24 (by kernel_rfl) ls24 (by kernel_rfl) (by kernel_rfl) hargs h
/-- escutcheon/hour.of -/
def lc25 : LCode := .seq (.reg []
  [⟨some 2, Go.Op.alloc 44, none⟩]) (.seq (.reg []
  [⟨some 4, Go.Op.move (Go.Operand.tmp 0), none⟩,
  ⟨some 5, Go.Op.binOp Go.BinOp.add 3 (Go.Operand.tmp 4) (Go.Operand.const (Go.Value.int Go.IntKind.i64 62167219200)) 3, none⟩,
  ⟨some 0, Go.Op.assign (Go.Operand.tmp 5), none⟩]) (.seq (.reg []
  [⟨some 6, Go.Op.move (Go.Operand.tmp 0), none⟩,
  ⟨some 7, Go.Op.binOp Go.BinOp.quo 3 (Go.Operand.tmp 6) (Go.Operand.const (Go.Value.int Go.IntKind.i64 86400)) 3, none⟩,
  ⟨some 8, Go.Op.binOp Go.BinOp.quo 3 (Go.Operand.tmp 7) (Go.Operand.const (Go.Value.int Go.IntKind.i64 366)) 3, none⟩,
  ⟨some 9, Go.Op.move (Go.Operand.tmp 0), none⟩,
  ⟨some 10, Go.Op.binOp Go.BinOp.quo 3 (Go.Operand.tmp 9) (Go.Operand.const (Go.Value.int Go.IntKind.i64 86400)) 3, none⟩,
  ⟨some 11, Go.Op.build 42 #[(0, Go.Operand.tmp 8), (1, Go.Operand.const (Go.Value.int Go.IntKind.i64 1)), (2, Go.Operand.tmp 10)], none⟩,
  ⟨some 3, Go.Op.alloc 42, none⟩,
  ⟨none, Go.Op.store 42 (Go.Operand.tmp 3) (Go.Operand.tmp 11), none⟩]) (.seq (.block 0 (.loop (.seq (.seq (.reg []
  [⟨some 12, Go.Op.fieldAddr 42 (Go.Operand.tmp 3) 0, none⟩,
  ⟨some 13, Go.Op.load 3 (Go.Operand.tmp 12), none⟩,
  ⟨some 14, Go.Op.binOp Go.BinOp.add 3 (Go.Operand.tmp 13) (Go.Operand.const (Go.Value.int Go.IntKind.i64 1)) 3, none⟩,
  ⟨some 15, Go.Op.call { callee := Go.Callee.value (Go.Operand.func 35), args := #[Go.Operand.tmp 14], argTypes := #[3] }, none⟩,
  ⟨some 16, Go.Op.move (Go.Operand.tmp 0), none⟩,
  ⟨some 17, Go.Op.binOp Go.BinOp.quo 3 (Go.Operand.tmp 16) (Go.Operand.const (Go.Value.int Go.IntKind.i64 86400)) 3, none⟩,
  ⟨some 18, Go.Op.binOp Go.BinOp.leq 3 (Go.Operand.tmp 15) (Go.Operand.tmp 17) 3, none⟩]) (.cond (Go.Operand.tmp 18) (.skip) (.exit 0))) (.block 1 (.reg []
  [⟨some 19, Go.Op.fieldAddr 42 (Go.Operand.tmp 3) 0, none⟩,
  ⟨some 20, Go.Op.load 3 (Go.Operand.tmp 19), none⟩,
  ⟨some 21, Go.Op.binOp Go.BinOp.add 3 (Go.Operand.tmp 20) (Go.Operand.const (Go.Value.int Go.IntKind.i64 1)) 3, none⟩,
  ⟨some 22, Go.Op.fieldAddr 42 (Go.Operand.tmp 3) 0, none⟩,
  ⟨none, Go.Op.store 3 (Go.Operand.tmp 22) (Go.Operand.tmp 21), none⟩]))))) (.seq (.reg [⟨some 23, Go.Op.fieldAddr 42 (Go.Operand.tmp 3) 2, none⟩,
  ⟨some 24, Go.Op.load 3 (Go.Operand.tmp 23), none⟩,
  ⟨some 25, Go.Op.fieldAddr 42 (Go.Operand.tmp 3) 0, none⟩,
  ⟨some 26, Go.Op.load 3 (Go.Operand.tmp 25), none⟩,
  ⟨some 27, Go.Op.call { callee := Go.Callee.value (Go.Operand.func 35), args := #[Go.Operand.tmp 26], argTypes := #[3] }, none⟩,
  ⟨some 28, Go.Op.binOp Go.BinOp.sub 3 (Go.Operand.tmp 27) (Go.Operand.const (Go.Value.int Go.IntKind.i64 1)) 3, none⟩,
  ⟨some 29, Go.Op.binOp Go.BinOp.sub 3 (Go.Operand.tmp 24) (Go.Operand.tmp 28) 3, none⟩,
  ⟨some 30, Go.Op.fieldAddr 42 (Go.Operand.tmp 3) 2, none⟩]
  [⟨none, Go.Op.store 3 (Go.Operand.tmp 30) (Go.Operand.tmp 29), none⟩]) (.seq (.block 2 (.loop (.seq (.seq (.reg [⟨some 31, Go.Op.fieldAddr 42 (Go.Operand.tmp 3) 2, none⟩,
  ⟨some 32, Go.Op.load 3 (Go.Operand.tmp 31), none⟩,
  ⟨some 33, Go.Op.fieldAddr 42 (Go.Operand.tmp 3) 0, none⟩,
  ⟨some 34, Go.Op.load 3 (Go.Operand.tmp 33), none⟩,
  ⟨some 35, Go.Op.fieldAddr 42 (Go.Operand.tmp 3) 1, none⟩,
  ⟨some 36, Go.Op.load 3 (Go.Operand.tmp 35), none⟩,
  ⟨some 37, Go.Op.call { callee := Go.Callee.value (Go.Operand.func 17), args := #[Go.Operand.tmp 34, Go.Operand.tmp 36], argTypes := #[3, 3] }, none⟩,
  ⟨some 38, Go.Op.binOp Go.BinOp.gtr 3 (Go.Operand.tmp 32) (Go.Operand.tmp 37) 3, none⟩]
  []) (.cond (Go.Operand.tmp 38) (.skip) (.exit 2))) (.block 3 (.seq (.reg [⟨some 39, Go.Op.fieldAddr 42 (Go.Operand.tmp 3) 2, none⟩,
  ⟨some 40, Go.Op.load 3 (Go.Operand.tmp 39), none⟩,
  ⟨some 41, Go.Op.fieldAddr 42 (Go.Operand.tmp 3) 0, none⟩,
  ⟨some 42, Go.Op.load 3 (Go.Operand.tmp 41), none⟩,
  ⟨some 43, Go.Op.fieldAddr 42 (Go.Operand.tmp 3) 1, none⟩,
  ⟨some 44, Go.Op.load 3 (Go.Operand.tmp 43), none⟩,
  ⟨some 45, Go.Op.call { callee := Go.Callee.value (Go.Operand.func 17), args := #[Go.Operand.tmp 42, Go.Operand.tmp 44], argTypes := #[3, 3] }, none⟩,
  ⟨some 46, Go.Op.binOp Go.BinOp.sub 3 (Go.Operand.tmp 40) (Go.Operand.tmp 45) 3, none⟩,
  ⟨some 47, Go.Op.fieldAddr 42 (Go.Operand.tmp 3) 2, none⟩]
  [⟨none, Go.Op.store 3 (Go.Operand.tmp 47) (Go.Operand.tmp 46), none⟩]) (.reg []
  [⟨some 48, Go.Op.fieldAddr 42 (Go.Operand.tmp 3) 1, none⟩,
  ⟨some 49, Go.Op.load 3 (Go.Operand.tmp 48), none⟩,
  ⟨some 50, Go.Op.binOp Go.BinOp.add 3 (Go.Operand.tmp 49) (Go.Operand.const (Go.Value.int Go.IntKind.i64 1)) 3, none⟩,
  ⟨some 51, Go.Op.fieldAddr 42 (Go.Operand.tmp 3) 1, none⟩,
  ⟨none, Go.Op.store 3 (Go.Operand.tmp 51) (Go.Operand.tmp 50), none⟩])))))) (.seq (.reg []
  [⟨some 52, Go.Op.move (Go.Operand.tmp 0), none⟩,
  ⟨some 53, Go.Op.binOp Go.BinOp.rem 3 (Go.Operand.tmp 52) (Go.Operand.const (Go.Value.int Go.IntKind.i64 86400)) 3, none⟩,
  ⟨some 0, Go.Op.assign (Go.Operand.tmp 53), none⟩]) (.seq (.reg []
  [⟨some 54, Go.Op.load 42 (Go.Operand.tmp 3), none⟩,
  ⟨some 55, Go.Op.move (Go.Operand.tmp 0), none⟩,
  ⟨some 56, Go.Op.binOp Go.BinOp.quo 3 (Go.Operand.tmp 55) (Go.Operand.const (Go.Value.int Go.IntKind.i64 3600)) 3, none⟩,
  ⟨some 57, Go.Op.move (Go.Operand.tmp 0), none⟩,
  ⟨some 58, Go.Op.binOp Go.BinOp.rem 3 (Go.Operand.tmp 57) (Go.Operand.const (Go.Value.int Go.IntKind.i64 3600)) 3, none⟩,
  ⟨some 59, Go.Op.binOp Go.BinOp.quo 3 (Go.Operand.tmp 58) (Go.Operand.const (Go.Value.int Go.IntKind.i64 60)) 3, none⟩,
  ⟨some 60, Go.Op.move (Go.Operand.tmp 0), none⟩,
  ⟨some 61, Go.Op.binOp Go.BinOp.rem 3 (Go.Operand.tmp 60) (Go.Operand.const (Go.Value.int Go.IntKind.i64 60)) 3, none⟩,
  ⟨some 62, Go.Op.build 44 #[(0, Go.Operand.tmp 54), (1, Go.Operand.tmp 56), (2, Go.Operand.tmp 59), (3, Go.Operand.tmp 61)], none⟩,
  ⟨none, Go.Op.store 44 (Go.Operand.tmp 2) (Go.Operand.tmp 62), none⟩]) (.ret))))))))
def ms25_0 : List Nat := [1, 4, 5, 6, 7, 8, 9, 10, 11, 12, 13, 14, 15, 16, 17, 18, 19, 20, 21, 22]
def ms25_1 : List Nat := [1, 4, 5, 6, 7, 8, 9, 10, 11, 12, 13, 14, 15, 16, 17, 18, 19, 20, 21, 22, 23, 24, 25, 26, 27, 28, 29, 30, 31, 32, 33, 34, 35, 36, 37, 38, 39, 40, 41, 42, 43, 44, 45, 46, 47, 48, 49, 50, 51]
def mj25_0 : List Nat := [1, 4, 5, 6, 7, 8, 9, 10, 11]
def mj25_1 : List Nat := [1, 4, 5, 6, 7, 8, 9, 10, 11, 12, 13, 14, 15, 16, 17, 18, 19, 20, 21, 22, 23, 24, 25, 26, 27, 28, 29, 30]
theorem ls25 : Tryd.f25.body.map (strip Tryd.prog impCodA) = some lc25 := by kernel_rfl
theorem lcall25 {args : List AV} (hargs : args.length ≤ 63) {H0 : AHeap} (lo : Nat) (hlo : H0.length ≤ lo) {r0 : AV} {H0' : AHeap}
    (h : lavc Tryd.prog glob lc25 (args ++ List.replicate (63 - args.length) (.v undef)) H0 fun e t H => (e = .normal ∨ e = .ret) ∧ aret Tryd.prog t H [Go.ResultVar.cell 2 44] fun r => Fin lo H r r0 H0') :
    ACall Tryd.prog glob (H0.length == 0) 25 args H0 r0 H0' := LCall' ctx Tryd.func25 (by kernel_rfl) ls25 (by kernel_rfl) (by kernel_rfl) hargs lo hlo h
theorem lcallk25 {args : List AV} (hargs : args.length ≤ 63) {H0 : AHeap} {r0 : AV} {H0' : AHeap}
    (h : lavc Tryd.prog glob lc25 (args ++ List.replicate (63 - args.length) (.v undef)) H0 fun e t H => (e = .normal ∨ e = .ret) ∧ aret Tryd.prog t H [Go.ResultVar.cell 2 44] fun r => r = r0 ∧ H = H0') :
    ACall Tryd.prog glob false 25 args H0 r0 H0' := LCallK' ctx Tryd.func25 (by kernel_rfl) ls25 (by kernel_rfl) (by kernel_rfl) hargs h
/-- escutcheon/hour.padded -/
def lc27 : LCode := .seq (.reg []
  [⟨some 4, Go.Op.assign (Go.Operand.const (Go.Value.string { data := #[] })), none⟩]) (.seq (.reg []
  [⟨some 6, Go.Op.move (Go.Operand.tmp 0), none⟩,
  ⟨some 7, Go.Op.call { callee := Go.Callee.value (Go.Operand.func 37), args := #[Go.Operand.tmp 6], argTypes := #[3] }, none⟩,
  ⟨some 5, Go.Op.assign (Go.Operand.tmp 7), none⟩]) (.seq (.reg []
  [⟨some 8, Go.Op.move (Go.Operand.tmp 1), none⟩,
  ⟨some 9, Go.Op.move (Go.Operand.tmp 5), none⟩,
  ⟨some 10, Go.Op.call { callee := Go.Callee.builtin Go.Builtin.len, args := #[Go.Operand.tmp 9], argTypes := #[9] }, none⟩,
  ⟨some 11, Go.Op.binOp Go.BinOp.sub 3 (Go.Operand.tmp 8) (Go.Operand.tmp 10) 3, none⟩,
  ⟨some 12, Go.Op.call { callee := Go.Callee.value (Go.Operand.func 38), args := #[Go.Operand.const (Go.Value.string { data := #[48] }), Go.Operand.tmp 11], argTypes := #[9, 3] }, none⟩,
  ⟨some 13, Go.Op.move (Go.Operand.tmp 5), none⟩,
  ⟨some 14, Go.Op.binOp Go.BinOp.add 9 (Go.Operand.tmp 12) (Go.Operand.tmp 13) 9, none⟩,
  ⟨some 4, Go.Op.assign (Go.Operand.tmp 14), none⟩]) (.ret)))
theorem ls27 : Tryd.f27.body.map (strip Tryd.prog impCodA) = some lc27 := by kernel_rfl
theorem lcall27 {args : List AV} (hargs : args.length ≤ 15) {H0 : AHeap} (lo : Nat) (hlo : H0.length ≤ lo) {r0 : AV} {H0' : AHeap}
    (h : lavc Tryd.prog glob lc27 (args ++ List.replicate (15 - args.length) (.v undef)) H0 fun e t H => (e = .normal ∨ e = .ret) ∧ aret Tryd.prog t H [Go.ResultVar.tmp 4] fun r => Fin lo H r r0 H0') :
    ACall Tryd.prog glob (H0.length == 0) 27 args H0 r0 H0' := LCall' ctx Tryd.func27 (by kernel_rfl) ls27 (by kernel_rfl) (by kernel_rfl) hargs lo hlo h
theorem lcallk27 {args : List AV} (hargs : args.length ≤ 15) {H0 : AHeap} {r0 : AV} {H0' : AHeap}
    (h : lavc Tryd.prog glob lc27 (args ++ List.replicate (15 - args.length) (.v undef)) H0 fun e t H => (e = .normal ∨ e = .ret) ∧ aret Tryd.prog t H [Go.ResultVar.tmp 4] fun r => r = r0 ∧ H = H0') :
    ACall Tryd.prog glob false 27 args H0 r0 H0' := LCallK' ctx Tryd.func27 (by kernel_rfl) ls27 (by kernel_rfl) (by kernel_rfl) hargs h
/-- escutcheon/hour.leap -/
def lc29 : LCode := .seq (.reg []
  [⟨some 2, Go.Op.assign (Go.Operand.const (Go.Value.bool false)), none⟩]) (.seq (.reg []
  [⟨some 3, Go.Op.move (Go.Operand.tmp 0), none⟩,
  ⟨some 4, Go.Op.binOp Go.BinOp.rem 3 (Go.Operand.tmp 3) (Go.Operand.const (Go.Value.int Go.IntKind.i64 4)) 3, none⟩,
  ⟨some 5, Go.Op.binOp Go.BinOp.eql 3 (Go.Operand.tmp 4) (Go.Operand.const (Go.Value.int Go.IntKind.i64 0)) 3, none⟩,
  ⟨some 6, Go.Op.move (Go.Operand.tmp 5), none⟩,
  ⟨some 7, Go.Op.move (Go.Operand.tmp 0), (some (6, true))⟩,
  ⟨some 8, Go.Op.binOp Go.BinOp.rem 3 (Go.Operand.tmp 7) (Go.Operand.const (Go.Value.int Go.IntKind.i64 100)) 3, (some (6, true))⟩,
  ⟨some 9, Go.Op.binOp Go.BinOp.neq 3 (Go.Operand.tmp 8) (Go.Operand.const (Go.Value.int Go.IntKind.i64 0)) 3, (some (6, true))⟩,
  ⟨some 10, Go.Op.move (Go.Operand.tmp 9), (some (6, true))⟩,
  ⟨some 11, Go.Op.move (Go.Operand.tmp 0), (some (10, false))⟩,
  ⟨some 12, Go.Op.binOp Go.BinOp.rem 3 (Go.Operand.tmp 11) (Go.Operand.const (Go.Value.int Go.IntKind.i64 400)) 3, (some (10, false))⟩,
  ⟨some 13, Go.Op.binOp Go.BinOp.eql 3 (Go.Operand.tmp 12) (Go.Operand.const (Go.Value.int Go.IntKind.i64 0)) 3, (some (10, false))⟩,
  ⟨some 14, Go.Op.pick (Go.Operand.tmp 10) (Go.Operand.const (Go.Value.bool true)) (Go.Operand.tmp 13), (some (6, true))⟩,
  ⟨some 15, Go.Op.pick (Go.Operand.tmp 6) (Go.Operand.tmp 14) (Go.Operand.const (Go.Value.bool false)), none⟩,
  ⟨some 2, Go.Op.assign (Go.Operand.tmp 15), none⟩]) (.ret))
theorem ls29 : Tryd.f29.body.map (strip Tryd.prog impCodA) = some lc29 := by kernel_rfl
theorem lcall29 {args : List AV} (hargs : args.length ≤ 16) {H0 : AHeap} (lo : Nat) (hlo : H0.length ≤ lo) {r0 : AV} {H0' : AHeap}
    (h : lavc Tryd.prog glob lc29 (args ++ List.replicate (16 - args.length) (.v undef)) H0 fun e t H => (e = .normal ∨ e = .ret) ∧ aret Tryd.prog t H [Go.ResultVar.tmp 2] fun r => Fin lo H r r0 H0') :
    ACall Tryd.prog glob (H0.length == 0) 29 args H0 r0 H0' := LCall' ctx Tryd.func29 (by kernel_rfl) ls29 (by kernel_rfl) (by kernel_rfl) hargs lo hlo h
theorem lcallk29 {args : List AV} (hargs : args.length ≤ 16) {H0 : AHeap} {r0 : AV} {H0' : AHeap}
    (h : lavc Tryd.prog glob lc29 (args ++ List.replicate (16 - args.length) (.v undef)) H0 fun e t H => (e = .normal ∨ e = .ret) ∧ aret Tryd.prog t H [Go.ResultVar.tmp 2] fun r => r = r0 ∧ H = H0') :
    ACall Tryd.prog glob false 29 args H0 r0 H0' := LCallK' ctx Tryd.func29 (by kernel_rfl) ls29 (by kernel_rfl) (by kernel_rfl) hargs h
/-- escutcheon/escutcheonref21.year -/
def lc30 : LCode := .seq (.reg []
  [⟨some 2, Go.Op.assign (Go.Operand.const (Go.Value.int Go.IntKind.i64 0)), none⟩]) (.seq (.reg []
  [⟨some 3, Go.Op.assign (Go.Operand.const (Go.Value.int Go.IntKind.i64 0)), none⟩]) (.seq (.seq (.reg []
  [⟨some 4, Go.Op.assign (Go.Operand.const (Go.Value.int Go.IntKind.i64 1)), none⟩]) (.block 0 (.loop (.seq (.seq (.reg []
  [⟨some 5, Go.Op.move (Go.Operand.tmp 4), none⟩,
  ⟨some 6, Go.Op.binOp Go.BinOp.leq 3 (Go.Operand.tmp 5) (Go.Operand.const (Go.Value.int Go.IntKind.i64 12)) 3, none⟩]) (.cond (Go.Operand.tmp 6) (.skip) (.exit 0))) (.seq (.block 1 (.reg []
  [⟨some 9, Go.Op.move (Go.Operand.tmp 3), none⟩,
  ⟨some 10, Go.Op.move (Go.Operand.tmp 0), none⟩,
  ⟨some 11, Go.Op.move (Go.Operand.tmp 4), none⟩,
  ⟨some 12, Go.Op.call { callee := Go.Callee.value (Go.Operand.func 16), args := #[Go.Operand.tmp 10, Go.Operand.tmp 11], argTypes := #[3, 3] }, none⟩,
  ⟨some 13, Go.Op.binOp Go.BinOp.add 3 (Go.Operand.tmp 9) (Go.Operand.tmp 12) 3, none⟩,
  ⟨some 3, Go.Op.assign (Go.Operand.tmp 13), none⟩])) (.reg []
  [⟨some 7, Go.Op.move (Go.Operand.tmp 4), none⟩,
  ⟨some 8, Go.Op.binOp Go.BinOp.add 3 (Go.Operand.tmp 7) (Go.Operand.const (Go.Value.int Go.IntKind.i64 1)) 3, none⟩,
  ⟨some 4, Go.Op.assign (Go.Operand.tmp 8), none⟩])))))) (.seq (.reg []
  [⟨some 14, Go.Op.move (Go.Operand.tmp 3), none⟩,
  ⟨some 2, Go.Op.assign (Go.Operand.tmp 14), none⟩]) (.ret))))
def ms30_0 : List Nat := [1, 3, 4, 5, 6, 7, 8, 9, 10, 11, 12, 13]
def mj30_0 : List Nat := [1]
theorem ls30 : Tryd.f30.body.map (strip Tryd.prog impCodA) = some lc30 := by kernel_rfl
theorem lcall30 {args : List AV} (hargs : args.length ≤ 15) {H0 : AHeap} (lo : Nat) (hlo : H0.length ≤ lo) {r0 : AV} {H0' : AHeap}
    (h : lavc Tryd.prog glob lc30 (args ++ List.replicate (15 - args.length) (.v undef)) H0 fun e t H => (e = .normal ∨ e = .ret) ∧ aret Tryd.prog t H [Go.ResultVar.tmp 2] fun r => Fin lo H r r0 H0') :
    ACall Tryd.prog glob (H0.length == 0) 30 args H0 r0 H0' := LCall' ctx Tryd.func30 (by kernel_rfl) ls30 (by kernel_rfl) (by kernel_rfl) hargs lo hlo h
theorem lcallk30 {args : List AV} (hargs : args.length ≤ 15) {H0 : AHeap} {r0 : AV} {H0' : AHeap}
    (h : lavc Tryd.prog glob lc30 (args ++ List.replicate (15 - args.length) (.v undef)) H0 fun e t H => (e = .normal ∨ e = .ret) ∧ aret Tryd.prog t H [Go.ResultVar.tmp 2] fun r => r = r0 ∧ H = H0') :
    ACall Tryd.prog glob false 30 args H0 r0 H0' := LCallK' ctx Tryd.func30 (by kernel_rfl) ls30 (by kernel_rfl) (by kernel_rfl) hargs h
/-- strconv.Atoi -/
def lc31 : LCode := .seq (.reg []
  [⟨some 2, Go.Op.assign (Go.Operand.const (Go.Value.int Go.IntKind.i64 0)), none⟩,
  ⟨some 3, Go.Op.assign (Go.Operand.const Go.Value.nilIface), none⟩]) (.seq (.reg []
  [⟨some 7, Go.Op.move (Go.Operand.tmp 0), none⟩,
  ⟨some 8, Go.Op.call { callee := Go.Callee.value (Go.Operand.func 39), args := #[Go.Operand.tmp 7], argTypes := #[9] }, none⟩,
  ⟨some 6, Go.Op.move (Go.Operand.tmp 8), none⟩,
  ⟨some 9, Go.Op.extract (Go.Operand.tmp 6) 0, none⟩,
  ⟨some 10, Go.Op.extract (Go.Operand.tmp 6) 1, none⟩,
  ⟨some 4, Go.Op.assign (Go.Operand.tmp 9), none⟩,
  ⟨some 5, Go.Op.assign (Go.Operand.tmp 10), none⟩]) (.seq (.seq (.reg []
  [⟨some 11, Go.Op.move (Go.Operand.tmp 5), none⟩,
  ⟨some 12, Go.Op.binOp Go.BinOp.neq 50 (Go.Operand.tmp 11) (Go.Operand.const Go.Value.nilIface) 50, none⟩]) (.cond (Go.Operand.tmp 12) (.seq (.reg []
  [⟨some 13, Go.Op.move (Go.Operand.tmp 4), none⟩,
  ⟨some 14, Go.Op.move (Go.Operand.tmp 0), none⟩,
  ⟨some 15, Go.Op.move (Go.Operand.tmp 5), none⟩,
  ⟨some 16, Go.Op.call { callee := Go.Callee.value (Go.Operand.func 40), args := #[Go.Operand.const (Go.Value.string { data := #[65, 116, 111, 105] }), Go.Operand.tmp 14, Go.Operand.const (Go.Value.int Go.IntKind.i64 0), Go.Operand.const (Go.Value.int Go.IntKind.i64 0), Go.Operand.tmp 15], argTypes := #[9, 9, 3, 3, 50] }, none⟩,
  ⟨some 2, Go.Op.assign (Go.Operand.tmp 13), none⟩,
  ⟨some 3, Go.Op.assign (Go.Operand.tmp 16), none⟩]) (.ret)) (.skip))) (.seq (.reg []
  [⟨some 17, Go.Op.move (Go.Operand.tmp 4), none⟩,
  ⟨some 2, Go.Op.assign (Go.Operand.tmp 17), none⟩,
  ⟨some 3, Go.Op.assign (Go.Operand.const Go.Value.nilIface), none⟩]) (.ret))))
def mj31_0 : List Nat := [0, 1, 2, 3, 5, 6, 7, 8, 9, 10, 11, 12, 13, 14, 15, 16]
theorem ls31 : Tryd.f31.body.map (strip Tryd.prog impCodA) = some lc31 := by kernel_rfl
theorem lcall31 {args : List AV} (hargs : args.length ≤ 18) {H0 : AHeap} (lo : Nat) (hlo : H0.length ≤ lo) {r0 : AV} {H0' : AHeap}
    (h : lavc Tryd.prog glob lc31 (args ++ List.replicate (18 - args.length) (.v undef)) H0 fun e t H => (e = .normal ∨ e = .ret) ∧ aret Tryd.prog t H [Go.ResultVar.tmp 2, Go.ResultVar.tmp 3] fun r => Fin lo H r r0 H0') :
    ACall Tryd.prog glob (H0.length == 0) 31 args H0 r0 H0' := LCall' ctx Tryd.func31 (by kernel_rfl) ls31 (by kernel_rfl) (by kernel_rfl) hargs lo hlo h
theorem lcallk31 {args : List AV} (hargs : args.length ≤ 18) {H0 : AHeap} {r0 : AV} {H0' : AHeap}
    (h : lavc Tryd.prog glob lc31 (args ++ List.replicate (18 - args.length) (.v undef)) H0 fun e t H => (e = .normal ∨ e = .ret) ∧ aret Tryd.prog t H [Go.ResultVar.tmp 2, Go.ResultVar.tmp 3] fun r => r = r0 ∧ H = H0') :
    ACall Tryd.prog glob false 31 args H0 r0 H0' := LCallK' ctx Tryd.func31 (by kernel_rfl) ls31 (by kernel_rfl) (by kernel_rfl) hargs h
/-- escutcheon/hour.first -/
def lc32 : LCode := .seq (.reg []
  [⟨some 0, Go.Op.assign (Go.Operand.const (Go.Value.int Go.IntKind.i64 0)), none⟩]) (.seq (.reg []
  [⟨some 0, Go.Op.assign (Go.Operand.const (Go.Value.int Go.IntKind.i64 (-62167219200))), none⟩]) (.ret))
theorem ls32 : Tryd.f32.body.map (strip Tryd.prog impCodA) = some lc32 := by kernel_rfl
theorem lcall32 {args : List AV} (hargs : args.length ≤ 1) {H0 : AHeap} (lo : Nat) (hlo : H0.length ≤ lo) {r0 : AV} {H0' : AHeap}
    (h : lavc Tryd.prog glob lc32 (args ++ List.replicate (1 - args.length) (.v undef)) H0 fun e t H => (e = .normal ∨ e = .ret) ∧ aret Tryd.prog t H [Go.ResultVar.tmp 0] fun r => Fin lo H r r0 H0') :
    ACall Tryd.prog glob (H0.length == 0) 32 args H0 r0 H0' := LCall' ctx Tryd.func32 (by kernel_rfl) ls32 (by kernel_rfl) (by kernel_rfl) hargs lo hlo h
theorem lcallk32 {args : List AV} (hargs : args.length ≤ 1) {H0 : AHeap} {r0 : AV} {H0' : AHeap}
    (h : lavc Tryd.prog glob lc32 (args ++ List.replicate (1 - args.length) (.v undef)) H0 fun e t H => (e = .normal ∨ e = .ret) ∧ aret Tryd.prog t H [Go.ResultVar.tmp 0] fun r => r = r0 ∧ H = H0') :
    ACall Tryd.prog glob false 32 args H0 r0 H0' := LCallK' ctx Tryd.func32 (by kernel_rfl) ls32 (by kernel_rfl) (by kernel_rfl) hargs h
/-- escutcheon/hour.last -/
def lc33 : LCode := .seq (.reg []
  [⟨some 0, Go.Op.assign (Go.Operand.const (Go.Value.int Go.IntKind.i64 0)), none⟩]) (.seq (.reg []
  [⟨some 1, Go.Op.call { callee := Go.Callee.value (Go.Operand.func 35), args := #[Go.Operand.const (Go.Value.int Go.IntKind.i64 10000)], argTypes := #[3] }, none⟩,
  ⟨some 2, Go.Op.binOp Go.BinOp.sub 3 (Go.Operand.tmp 1) (Go.Operand.const (Go.Value.int Go.IntKind.i64 719528)) 3, none⟩,
  ⟨some 3, Go.Op.binOp Go.BinOp.mul 3 (Go.Operand.tmp 2) (Go.Operand.const (Go.Value.int Go.IntKind.i64 86400)) 3, none⟩,
  ⟨some 4, Go.Op.binOp Go.BinOp.sub 3 (Go.Operand.tmp 3) (Go.Operand.const (Go.Value.int Go.IntKind.i64 1)) 3, none⟩,
  ⟨some 0, Go.Op.assign (Go.Operand.tmp 4), none⟩]) (.ret))
theorem ls33 : Tryd.f33.body.map (strip Tryd.prog impCodA) = some lc33 := by kernel_rfl
theorem lcall33 {args : List AV} (hargs : args.length ≤ 5) {H0 : AHeap} (lo : Nat) (hlo : H0.length ≤ lo) {r0 : AV} {H0' : AHeap}
    (h : lavc Tryd.prog glob lc33 (args ++ List.replicate (5 - args.length) (.v undef)) H0 fun e t H => (e = .normal ∨ e = .ret) ∧ aret Tryd.prog t H [Go.ResultVar.tmp 0] fun r => Fin lo H r r0 H0') :
    ACall Tryd.prog glob (H0.length == 0) 33 args H0 r0 H0' := LCall' ctx Tryd.func33 (by kernel_rfl) ls33 (by kernel_rfl) (by kernel_rfl) hargs lo hlo h
theorem lcallk33 {args : List AV} (hargs : args.length ≤ 5) {H0 : AHeap} {r0 : AV} {H0' : AHeap}
    (h : lavc Tryd.prog glob lc33 (args ++ List.replicate (5 - args.length) (.v undef)) H0 fun e t H => (e = .normal ∨ e = .ret) ∧ aret Tryd.prog t H [Go.ResultVar.tmp 0] fun r => r = r0 ∧ H = H0') :
    ACall Tryd.prog glob false 33 args H0 r0 H0' := LCallK' ctx Tryd.func33 (by kernel_rfl) ls33 (by kernel_rfl) (by kernel_rfl) hargs h
/-- (escutcheon/hour.date).days -/
def lc34 : LCode := .seq (.reg []
  [⟨some 1, Go.Op.box 42 (Go.Operand.tmp 0), none⟩,
  ⟨some 2, Go.Op.assign (Go.Operand.const (Go.Value.int Go.IntKind.i64 0)), none⟩]) (.seq (.reg [⟨some 5, Go.Op.fieldAddr 42 (Go.Operand.tmp 1) 0, none⟩,
  ⟨some 6, Go.Op.load 3 (Go.Operand.tmp 5), none⟩,
  ⟨some 7, Go.Op.call { callee := Go.Callee.value (Go.Operand.func 35), args := #[Go.Operand.tmp 6], argTypes := #[3] }, none⟩,
  ⟨some 8, Go.Op.fieldAddr 42 (Go.Operand.tmp 1) 2, none⟩,
  ⟨some 9, Go.Op.load 3 (Go.Operand.tmp 8), none⟩,
  ⟨some 10, Go.Op.binOp Go.BinOp.add 3 (Go.Operand.tmp 7) (Go.Operand.tmp 9) 3, none⟩,
  ⟨some 11, Go.Op.binOp Go.BinOp.sub 3 (Go.Operand.tmp 10) (Go.Operand.const (Go.Value.int Go.IntKind.i64 1)) 3, none⟩,
  ⟨some 3, Go.Op.assign (Go.Operand.tmp 11), none⟩]
  []) (.seq (.seq (.reg []
  [⟨some 4, Go.Op.assign (Go.Operand.const (Go.Value.int Go.IntKind.i64 1)), none⟩]) (.block 0 (.loop (.seq (.seq (.reg []
  [⟨some 12, Go.Op.move (Go.Operand.tmp 4), none⟩,
  ⟨some 13, Go.Op.fieldAddr 42 (Go.Operand.tmp 1) 1, none⟩,
  ⟨some 14, Go.Op.load 3 (Go.Operand.tmp 13), none⟩,
  ⟨some 15, Go.Op.binOp Go.BinOp.lss 3 (Go.Operand.tmp 12) (Go.Operand.tmp 14) 3, none⟩]) (.cond (Go.Operand.tmp 15) (.skip) (.exit 0))) (.seq (.block 1 (.reg []
  [⟨some 18, Go.Op.move (Go.Operand.tmp 3), none⟩,
  ⟨some 19, Go.Op.fieldAddr 42 (Go.Operand.tmp 1) 0, none⟩,
  ⟨some 20, Go.Op.load 3 (Go.Operand.tmp 19), none⟩,
  ⟨some 21, Go.Op.move (Go.Operand.tmp 4), none⟩,
  ⟨some 22, Go.Op.call { callee := Go.Callee.value (Go.Operand.func 17), args := #[Go.Operand.tmp 20, Go.Operand.tmp 21], argTypes := #[3, 3] }, none⟩,
  ⟨some 23, Go.Op.binOp Go.BinOp.add 3 (Go.Operand.tmp 18) (Go.Operand.tmp 22) 3, none⟩,
  ⟨some 3, Go.Op.assign (Go.Operand.tmp 23), none⟩])) (.reg []
  [⟨some 16, Go.Op.move (Go.Operand.tmp 4), none⟩,
  ⟨some 17, Go.Op.binOp Go.BinOp.add 3 (Go.Operand.tmp 16) (Go.Operand.const (Go.Value.int Go.IntKind.i64 1)) 3, none⟩,
  ⟨some 4, Go.Op.assign (Go.Operand.tmp 17), none⟩])))))) (.seq (.reg []
  [⟨some 24, Go.Op.move (Go.Operand.tmp 3), none⟩,
  ⟨some 2, Go.Op.assign (Go.Operand.tmp 24), none⟩]) (.ret))))
def ms34_0 : List Nat := [0, 3, 4, 5, 6, 7, 8, 9, 10, 11, 12, 13, 14, 15, 16, 17, 18, 19, 20, 21, 22, 23]
def mj34_0 : List Nat := [0, 5, 6, 7, 8, 9, 10, 11]
theorem ls34 : Tryd.f34.body.map (strip Tryd.prog impCodA) = some lc34 := by kernel_rfl
theorem lcall34 {args : List AV} (hargs : args.length ≤ 25) {H0 : AHeap} (lo : Nat) (hlo : H0.length ≤ lo) {r0 : AV} {H0' : AHeap}
    (h : lavc Tryd.prog glob lc34 (args ++ List.replicate (25 - args.length) (.v undef)) H0 fun e t H => (e = .normal ∨ e = .ret) ∧ aret Tryd.prog t H [Go.ResultVar.tmp 2] fun r => Fin lo H r r0 H0') :
    ACall Tryd.prog glob (H0.length == 0) 34 args H0 r0 H0' := LCall' ctx Tryd.func34 (by kernel_rfl) ls34 (by kernel_rfl) (by kernel_rfl) hargs lo hlo h
theorem lcallk34 {args : List AV} (hargs : args.length ≤ 25) {H0 : AHeap} {r0 : AV} {H0' : AHeap}
    (h : lavc Tryd.prog glob lc34 (args ++ List.replicate (25 - args.length) (.v undef)) H0 fun e t H => (e = .normal ∨ e = .ret) ∧ aret Tryd.prog t H [Go.ResultVar.tmp 2] fun r => r = r0 ∧ H = H0') :
    ACall Tryd.prog glob false 34 args H0 r0 H0' := LCallK' ctx Tryd.func34 (by kernel_rfl) ls34 (by kernel_rfl) (by kernel_rfl) hargs h
/-- escutcheon/hour.ahead -/
def lc35 : LCode := .seq (.reg []
  [⟨some 2, Go.Op.assign (Go.Operand.const (Go.Value.int Go.IntKind.i64 0)), none⟩]) (.seq (.reg []
  [⟨some 3, Go.Op.move (Go.Operand.tmp 0), none⟩,
  ⟨some 4, Go.Op.binOp Go.BinOp.mul 3 (Go.Operand.tmp 3) (Go.Operand.const (Go.Value.int Go.IntKind.i64 365)) 3, none⟩,
  ⟨some 5, Go.Op.move (Go.Operand.tmp 0), none⟩,
  ⟨some 6, Go.Op.binOp Go.BinOp.add 3 (Go.Operand.tmp 5) (Go.Operand.const (Go.Value.int Go.IntKind.i64 3)) 3, none⟩,
  ⟨some 7, Go.Op.binOp Go.BinOp.quo 3 (Go.Operand.tmp 6) (Go.Operand.const (Go.Value.int Go.IntKind.i64 4)) 3, none⟩,
  ⟨some 8, Go.Op.binOp Go.BinOp.add 3 (Go.Operand.tmp 4) (Go.Operand.tmp 7) 3, none⟩,
  ⟨some 9, Go.Op.move (Go.Operand.tmp 0), none⟩,
  ⟨some 10, Go.Op.binOp Go.BinOp.add 3 (Go.Operand.tmp 9) (Go.Operand.const (Go.Value.int Go.IntKind.i64 99)) 3, none⟩,
  ⟨some 11, Go.Op.binOp Go.BinOp.quo 3 (Go.Operand.tmp 10) (Go.Operand.const (Go.Value.int Go.IntKind.i64 100)) 3, none⟩,
  ⟨some 12, Go.Op.binOp Go.BinOp.sub 3 (Go.Operand.tmp 8) (Go.Operand.tmp 11) 3, none⟩,
  ⟨some 13, Go.Op.move (Go.Operand.tmp 0), none⟩,
  ⟨some 14, Go.Op.binOp Go.BinOp.add 3 (Go.Operand.tmp 13) (Go.Operand.const (Go.Value.int Go.IntKind.i64 399)) 3, none⟩,
  ⟨some 15, Go.Op.binOp Go.BinOp.quo 3 (Go.Operand.tmp 14) (Go.Operand.const (Go.Value.int Go.IntKind.i64 400)) 3, none⟩,
  ⟨some 16, Go.Op.binOp Go.BinOp.add 3 (Go.Operand.tmp 12) (Go.Operand.tmp 15) 3, none⟩,
  ⟨some 2, Go.Op.assign (Go.Operand.tmp 16), none⟩]) (.ret))
theorem ls35 : Tryd.f35.body.map (strip Tryd.prog impCodA) = some lc35 := by kernel_rfl
theorem lcall35 {args : List AV} (hargs : args.length ≤ 17) {H0 : AHeap} (lo : Nat) (hlo : H0.length ≤ lo) {r0 : AV} {H0' : AHeap}
    (h : lavc Tryd.prog glob lc35 (args ++ List.replicate (17 - args.length) (.v undef)) H0 fun e t H => (e = .normal ∨ e = .ret) ∧ aret Tryd.prog t H [Go.ResultVar.tmp 2] fun r => Fin lo H r r0 H0') :
    ACall Tryd.prog glob (H0.length == 0) 35 args H0 r0 H0' := LCall' ctx Tryd.func35 (by kernel_rfl) ls35 (by kernel_rfl) (by kernel_rfl) hargs lo hlo h
theorem lcallk35 {args : List AV} (hargs : args.length ≤ 17) {H0 : AHeap} {r0 : AV} {H0' : AHeap}
    (h : lavc Tryd.prog glob lc35 (args ++ List.replicate (17 - args.length) (.v undef)) H0 fun e t H => (e = .normal ∨ e = .ret) ∧ aret Tryd.prog t H [Go.ResultVar.tmp 2] fun r => r = r0 ∧ H = H0') :
    ACall Tryd.prog glob false 35 args H0 r0 H0' := LCallK' ctx Tryd.func35 (by kernel_rfl) ls35 (by kernel_rfl) (by kernel_rfl) hargs h
/-- strconv.Itoa -/
def lc37 : LCode := .seq (.reg []
  [⟨some 2, Go.Op.assign (Go.Operand.const (Go.Value.string { data := #[] })), none⟩]) (.seq (.reg []
  [⟨some 3, Go.Op.move (Go.Operand.tmp 0), none⟩,
  ⟨some 4, Go.Op.call { callee := Go.Callee.value (Go.Operand.func 42), args := #[Go.Operand.tmp 3], argTypes := #[3] }, none⟩,
  ⟨some 2, Go.Op.assign (Go.Operand.tmp 4), none⟩]) (.ret))
theorem ls37 : Tryd.f37.body.map (strip Tryd.prog impCodA) = some lc37 := by kernel_rfl
theorem lcall37 {args : List AV} (hargs : args.length ≤ 5) {H0 : AHeap} (lo : Nat) (hlo : H0.length ≤ lo) {r0 : AV} {H0' : AHeap}
    (h : lavc Tryd.prog glob lc37 (args ++ List.replicate (5 - args.length) (.v undef)) H0 fun e t H => (e = .normal ∨ e = .ret) ∧ aret Tryd.prog t H [Go.ResultVar.tmp 2] fun r => Fin lo H r r0 H0') :
    ACall Tryd.prog glob (H0.length == 0) 37 args H0 r0 H0' := LCall' ctx Tryd.func37 (by kernel_rfl) ls37 (by kernel_rfl) (by kernel_rfl) hargs lo hlo h
theorem lcallk37 {args : List AV} (hargs : args.length ≤ 5) {H0 : AHeap} {r0 : AV} {H0' : AHeap}
    (h : lavc Tryd.prog glob lc37 (args ++ List.replicate (5 - args.length) (.v undef)) H0 fun e t H => (e = .normal ∨ e = .ret) ∧ aret Tryd.prog t H [Go.ResultVar.tmp 2] fun r => r = r0 ∧ H = H0') :
    ACall Tryd.prog glob false 37 args H0 r0 H0' := LCallK' ctx Tryd.func37 (by kernel_rfl) ls37 (by kernel_rfl) (by kernel_rfl) hargs h
/-- strings.Repeat -/
def lc38 : LCode := .seq (.reg []
  [⟨some 4, Go.Op.assign (Go.Operand.const (Go.Value.string { data := #[] })), none⟩]) (.seq (.seq (.reg []
  [⟨some 11, Go.Op.move (Go.Operand.tmp 1), none⟩]) (.block 0 (.seq (.reg []
  [⟨some 13, Go.Op.binOp Go.BinOp.eql 3 (Go.Operand.tmp 11) (Go.Operand.const (Go.Value.int Go.IntKind.i64 0)) 3, none⟩,
  ⟨some 12, Go.Op.assign (Go.Operand.tmp 13), none⟩]) (.cond (Go.Operand.tmp 12) (.seq (.reg []
  [⟨some 4, Go.Op.assign (Go.Operand.const (Go.Value.string { data := #[] })), none⟩]) (.ret)) (.seq (.reg []
  [⟨some 15, Go.Op.binOp Go.BinOp.eql 3 (Go.Operand.tmp 11) (Go.Operand.const (Go.Value.int Go.IntKind.i64 1)) 3, none⟩,
  ⟨some 14, Go.Op.assign (Go.Operand.tmp 15), none⟩]) (.cond (Go.Operand.tmp 14) (.seq (.reg []
  [⟨some 16, Go.Op.move (Go.Operand.tmp 0), none⟩,
  ⟨some 4, Go.Op.assign (Go.Operand.tmp 16), none⟩]) (.ret)) (.skip))))))) (.seq (.seq (.reg []
  [⟨some 17, Go.Op.move (Go.Operand.tmp 1), none⟩,
  ⟨some 18, Go.Op.binOp Go.BinOp.lss 3 (Go.Operand.tmp 17) (Go.Operand.const (Go.Value.int Go.IntKind.i64 0)) 3, none⟩]) (.cond (Go.Operand.tmp 18) (.reg []
  [⟨some 19, Go.Op.makeInterface 9 (Go.Operand.const (Go.Value.string { data := #[115, 116, 114, 105, 110, 103, 115, 58, 32, 110, 101, 103, 97, 116, 105, 118, 101, 32, 82, 101, 112, 101, 97, 116, 32, 99, 111, 117, 110, 116] })), none⟩,
  ⟨none, Go.Op.panic (Go.Operand.tmp 19), none⟩]) (.skip))) (.seq (.reg []
  [⟨some 21, Go.Op.move (Go.Operand.tmp 0), none⟩,
  ⟨some 22, Go.Op.call { callee := Go.Callee.builtin Go.Builtin.len, args := #[Go.Operand.tmp 21], argTypes := #[9] }, none⟩,
  ⟨some 23, Go.Op.convert 3 64 (Go.Operand.tmp 22), none⟩,
  ⟨some 24, Go.Op.move (Go.Operand.tmp 1), none⟩,
  ⟨some 25, Go.Op.convert 3 64 (Go.Operand.tmp 24), none⟩,
  ⟨some 26, Go.Op.call { callee := Go.Callee.value (Go.Operand.func 43), args := #[Go.Operand.tmp 23, Go.Operand.tmp 25], argTypes := #[64, 64] }, none⟩,
  ⟨some 20, Go.Op.move (Go.Operand.tmp 26), none⟩,
  ⟨some 27, Go.Op.extract (Go.Operand.tmp 20) 0, none⟩,
  ⟨some 28, Go.Op.extract (Go.Operand.tmp 20) 1, none⟩,
  ⟨some 5, Go.Op.assign (Go.Operand.tmp 27), none⟩,
  ⟨some 6, Go.Op.assign (Go.Operand.tmp 28), none⟩]) (.seq (.seq (.reg []
  [⟨some 29, Go.Op.move (Go.Operand.tmp 5), none⟩,
  ⟨some 30, Go.Op.binOp Go.BinOp.gtr 64 (Go.Operand.tmp 29) (Go.Operand.const (Go.Value.int Go.IntKind.u64 0)) 64, none⟩,
  ⟨some 31, Go.Op.move (Go.Operand.tmp 30), none⟩,
  ⟨some 32, Go.Op.move (Go.Operand.tmp 6), (some (31, false))⟩,
  ⟨some 33, Go.Op.binOp Go.BinOp.gtr 64 (Go.Operand.tmp 32) (Go.Operand.const (Go.Value.int Go.IntKind.u64 9223372036854775807)) 64, (some (31, false))⟩,
  ⟨some 34, Go.Op.pick (Go.Operand.tmp 31) (Go.Operand.const (Go.Value.bool true)) (Go.Operand.tmp 33), none⟩]) (.cond (Go.Operand.tmp 34) (.reg []
  [⟨some 35, Go.Op.makeInterface 9 (Go.Operand.const (Go.Value.string { data := #[115, 116, 114, 105, 110, 103, 115, 58, 32, 82, 101, 112, 101, 97, 116, 32, 111, 117, 116, 112, 117, 116, 32, 108, 101, 110, 103, 116, 104, 32, 111, 118, 101, 114, 102, 108, 111, 119] })), none⟩,
  ⟨none, Go.Op.panic (Go.Operand.tmp 35), none⟩]) (.skip))) (.seq (.reg []
  [⟨some 36, Go.Op.move (Go.Operand.tmp 6), none⟩,
  ⟨some 37, Go.Op.convert 64 3 (Go.Operand.tmp 36), none⟩,
  ⟨some 7, Go.Op.assign (Go.Operand.tmp 37), none⟩]) (.seq (.seq (.reg []
  [⟨some 38, Go.Op.move (Go.Operand.tmp 0), none⟩,
  ⟨some 39, Go.Op.call { callee := Go.Callee.builtin Go.Builtin.len, args := #[Go.Operand.tmp 38], argTypes := #[9] }, none⟩,
  ⟨some 40, Go.Op.binOp Go.BinOp.eql 3 (Go.Operand.tmp 39) (Go.Operand.const (Go.Value.int Go.IntKind.i64 0)) 3, none⟩]) (.cond (Go.Operand.tmp 40) (.seq (.reg []
  [⟨some 4, Go.Op.assign (Go.Operand.const (Go.Value.string { data := #[] })), none⟩]) (.ret)) (.skip))) (.seq (.seq (.reg []
  [⟨some 41, Go.Op.move (Go.Operand.tmp 0), none⟩,
  ⟨some 42, Go.Op.index 9 (Go.Operand.tmp 41) (Go.Operand.const (Go.Value.int Go.IntKind.i64 0)), none⟩]) (.block 1 (.seq (.seq (.reg []
  [⟨some 44, Go.Op.binOp Go.BinOp.eql 5 (Go.Operand.tmp 42) (Go.Operand.const (Go.Value.int Go.IntKind.u8 32)) 5, none⟩,
  ⟨some 43, Go.Op.assign (Go.Operand.tmp 44), none⟩]) (.cond (Go.Operand.tmp 43) (.skip) (.seq (.reg []
  [⟨some 45, Go.Op.binOp Go.BinOp.eql 5 (Go.Operand.tmp 42) (Go.Operand.const (Go.Value.int Go.IntKind.u8 45)) 5, none⟩,
  ⟨some 43, Go.Op.assign (Go.Operand.tmp 45), none⟩]) (.cond (Go.Operand.tmp 43) (.skip) (.seq (.reg []
  [⟨some 46, Go.Op.binOp Go.BinOp.eql 5 (Go.Operand.tmp 42) (Go.Operand.const (Go.Value.int Go.IntKind.u8 48)) 5, none⟩,
  ⟨some 43, Go.Op.assign (Go.Operand.tmp 46), none⟩]) (.cond (Go.Operand.tmp 43) (.skip) (.seq (.reg []
  [⟨some 47, Go.Op.binOp Go.BinOp.eql 5 (Go.Operand.tmp 42) (Go.Operand.const (Go.Value.int Go.IntKind.u8 61)) 5, none⟩,
  ⟨some 43, Go.Op.assign (Go.Operand.tmp 47), none⟩]) (.cond (Go.Operand.tmp 43) (.skip) (.reg []
  [⟨some 48, Go.Op.binOp Go.BinOp.eql 5 (Go.Operand.tmp 42) (Go.Operand.const (Go.Value.int Go.IntKind.u8 9)) 5, none⟩,
  ⟨some 43, Go.Op.assign (Go.Operand.tmp 48), none⟩]))))))))) (.cond (Go.Operand.tmp 43) (.block 2 (.seq (.reg []
  [⟨some 50, Go.Op.move (Go.Operand.tmp 7), none⟩,
  ⟨some 51, Go.Op.binOp Go.BinOp.leq 3 (Go.Operand.tmp 50) (Go.Operand.const (Go.Value.int Go.IntKind.i64 128)) 3, none⟩,
  ⟨some 52, Go.Op.move (Go.Operand.tmp 51), none⟩,
  ⟨some 53, Go.Op.move (Go.Operand.tmp 0), (some (52, true))⟩,
  ⟨some 54, Go.Op.call { callee := Go.Callee.value (Go.Operand.func 44), args := #[Go.Operand.const (Go.Value.string { data := #[32, 32, 32, 32, 32, 32, 32, 32, 32, 32, 32, 32, 32, 32, 32, 32, 32, 32, 32, 32, 32, 32, 32, 32, 32, 32, 32, 32, 32, 32, 32, 32, 32, 32, 32, 32, 32, 32, 32, 32, 32, 32, 32, 32, 32, 32, 32, 32, 32, 32, 32, 32, 32, 32, 32, 32, 32, 32, 32, 32, 32, 32, 32, 32, 32, 32, 32, 32, 32, 32, 32, 32, 32, 32, 32, 32, 32, 32, 32, 32, 32, 32, 32, 32, 32, 32, 32, 32, 32, 32, 32, 32, 32, 32, 32, 32, 32, 32, 32, 32, 32, 32, 32, 32, 32, 32, 32, 32, 32, 32, 32, 32, 32, 32, 32, 32, 32, 32, 32, 32, 32, 32, 32, 32, 32, 32, 32, 32] }), Go.Operand.tmp 53], argTypes := #[9, 9] }, (some (52, true))⟩,
  ⟨some 55, Go.Op.pick (Go.Operand.tmp 52) (Go.Operand.tmp 54) (Go.Operand.const (Go.Value.bool false)), none⟩,
  ⟨some 49, Go.Op.assign (Go.Operand.tmp 55), none⟩]) (.cond (Go.Operand.tmp 49) (.seq (.reg []
  [⟨some 56, Go.Op.move (Go.Operand.tmp 7), none⟩,
  ⟨some 57, Go.Op.slice 9 (Go.Operand.const (Go.Value.string { data := #[32, 32, 32, 32, 32, 32, 32, 32, 32, 32, 32, 32, 32, 32, 32, 32, 32, 32, 32, 32, 32, 32, 32, 32, 32, 32, 32, 32, 32, 32, 32, 32, 32, 32, 32, 32, 32, 32, 32, 32, 32, 32, 32, 32, 32, 32, 32, 32, 32, 32, 32, 32, 32, 32, 32, 32, 32, 32, 32, 32, 32, 32, 32, 32, 32, 32, 32, 32, 32, 32, 32, 32, 32, 32, 32, 32, 32, 32, 32, 32, 32, 32, 32, 32, 32, 32, 32, 32, 32, 32, 32, 32, 32, 32, 32, 32, 32, 32, 32, 32, 32, 32, 32, 32, 32, 32, 32, 32, 32, 32, 32, 32, 32, 32, 32, 32, 32, 32, 32, 32, 32, 32, 32, 32, 32, 32, 32, 32] })) none (some (Go.Operand.tmp 56)) none, none⟩,
  ⟨some 4, Go.Op.assign (Go.Operand.tmp 57), none⟩]) (.ret)) (.seq (.reg []
  [⟨some 59, Go.Op.move (Go.Operand.tmp 7), none⟩,
  ⟨some 60, Go.Op.binOp Go.BinOp.leq 3 (Go.Operand.tmp 59) (Go.Operand.const (Go.Value.int Go.IntKind.i64 128)) 3, none⟩,
  ⟨some 61, Go.Op.move (Go.Operand.tmp 60), none⟩,
  ⟨some 62, Go.Op.move (Go.Operand.tmp 0), (some (61, true))⟩,
  ⟨some 63, Go.Op.call { callee := Go.Callee.value (Go.Operand.func 44), args := #[Go.Operand.const (Go.Value.string { data := #[45, 45, 45, 45, 45, 45, 45, 45, 45, 45, 45, 45, 45, 45, 45, 45, 45, 45, 45, 45, 45, 45, 45, 45, 45, 45, 45, 45, 45, 45, 45, 45, 45, 45, 45, 45, 45, 45, 45, 45, 45, 45, 45, 45, 45, 45, 45, 45, 45, 45, 45, 45, 45, 45, 45, 45, 45, 45, 45, 45, 45, 45, 45, 45, 45, 45, 45, 45, 45, 45, 45, 45, 45, 45, 45, 45, 45, 45, 45, 45, 45, 45, 45, 45, 45, 45, 45, 45, 45, 45, 45, 45, 45, 45, 45, 45, 45, 45, 45, 45, 45, 45, 45, 45, 45, 45, 45, 45, 45, 45, 45, 45, 45, 45, 45, 45, 45, 45, 45, 45, 45, 45, 45, 45, 45, 45, 45, 45] }), Go.Operand.tmp 62], argTypes := #[9, 9] }, (some (61, true))⟩,
  ⟨some 64, Go.Op.pick (Go.Operand.tmp 61) (Go.Operand.tmp 63) (Go.Operand.const (Go.Value.bool false)), none⟩,
  ⟨some 58, Go.Op.assign (Go.Operand.tmp 64), none⟩]) (.cond (Go.Operand.tmp 58) (.seq (.reg []
  [⟨some 65, Go.Op.move (Go.Operand.tmp 7), none⟩,
  ⟨some 66, Go.Op.slice 9 (Go.Operand.const (Go.Value.string { data := #[45, 45, 45, 45, 45, 45, 45, 45, 45, 45, 45, 45, 45, 45, 45, 45, 45, 45, 45, 45, 45, 45, 45, 45, 45, 45, 45, 45, 45, 45, 45, 45, 45, 45, 45, 45, 45, 45, 45, 45, 45, 45, 45, 45, 45, 45, 45, 45, 45, 45, 45, 45, 45, 45, 45, 45, 45, 45, 45, 45, 45, 45, 45, 45, 45, 45, 45, 45, 45, 45, 45, 45, 45, 45, 45, 45, 45, 45, 45, 45, 45, 45, 45, 45, 45, 45, 45, 45, 45, 45, 45, 45, 45, 45, 45, 45, 45, 45, 45, 45, 45, 45, 45, 45, 45, 45, 45, 45, 45, 45, 45, 45, 45, 45, 45, 45, 45, 45, 45, 45, 45, 45, 45, 45, 45, 45, 45, 45] })) none (some (Go.Operand.tmp 65)) none, none⟩,
  ⟨some 4, Go.Op.assign (Go.Operand.tmp 66), none⟩]) (.ret)) (.seq (.reg []
  [⟨some 68, Go.Op.move (Go.Operand.tmp 7), none⟩,
  ⟨some 69, Go.Op.binOp Go.BinOp.leq 3 (Go.Operand.tmp 68) (Go.Operand.const (Go.Value.int Go.IntKind.i64 64)) 3, none⟩,
  ⟨some 70, Go.Op.move (Go.Operand.tmp 69), none⟩,
  ⟨some 71, Go.Op.move (Go.Operand.tmp 0), (some (70, true))⟩,
  ⟨some 72, Go.Op.call { callee := Go.Callee.value (Go.Operand.func 44), args := #[Go.Operand.const (Go.Value.string { data := #[48, 48, 48, 48, 48, 48, 48, 48, 48, 48, 48, 48, 48, 48, 48, 48, 48, 48, 48, 48, 48, 48, 48, 48, 48, 48, 48, 48, 48, 48, 48, 48, 48, 48, 48, 48, 48, 48, 48, 48, 48, 48, 48, 48, 48, 48, 48, 48, 48, 48, 48, 48, 48, 48, 48, 48, 48, 48, 48, 48, 48, 48, 48, 48] }), Go.Operand.tmp 71], argTypes := #[9, 9] }, (some (70, true))⟩,
  ⟨some 73, Go.Op.pick (Go.Operand.tmp 70) (Go.Operand.tmp 72) (Go.Operand.const (Go.Value.bool false)), none⟩,
  ⟨some 67, Go.Op.assign (Go.Operand.tmp 73), none⟩]) (.cond (Go.Operand.tmp 67) (.seq (.reg []
  [⟨some 74, Go.Op.move (Go.Operand.tmp 7), none⟩,
  ⟨some 75, Go.Op.slice 9 (Go.Operand.const (Go.Value.string { data := #[48, 48, 48, 48, 48, 48, 48, 48, 48, 48, 48, 48, 48, 48, 48, 48, 48, 48, 48, 48, 48, 48, 48, 48, 48, 48, 48, 48, 48, 48, 48, 48, 48, 48, 48, 48, 48, 48, 48, 48, 48, 48, 48, 48, 48, 48, 48, 48, 48, 48, 48, 48, 48, 48, 48, 48, 48, 48, 48, 48, 48, 48, 48, 48] })) none (some (Go.Operand.tmp 74)) none, none⟩,
  ⟨some 4, Go.Op.assign (Go.Operand.tmp 75), none⟩]) (.ret)) (.seq (.reg []
  [⟨some 77, Go.Op.move (Go.Operand.tmp 7), none⟩,
  ⟨some 78, Go.Op.binOp Go.BinOp.leq 3 (Go.Operand.tmp 77) (Go.Operand.const (Go.Value.int Go.IntKind.i64 128)) 3, none⟩,
  ⟨some 79, Go.Op.move (Go.Operand.tmp 78), none⟩,
  ⟨some 80, Go.Op.move (Go.Operand.tmp 0), (some (79, true))⟩,
  ⟨some 81, Go.Op.call { callee := Go.Callee.value (Go.Operand.func 44), args := #[Go.Operand.const (Go.Value.string { data := #[61, 61, 61, 61, 61, 61, 61, 61, 61, 61, 61, 61, 61, 61, 61, 61, 61, 61, 61, 61, 61, 61, 61, 61, 61, 61, 61, 61, 61, 61, 61, 61, 61, 61, 61, 61, 61, 61, 61, 61, 61, 61, 61, 61, 61, 61, 61, 61, 61, 61, 61, 61, 61, 61, 61, 61, 61, 61, 61, 61, 61, 61, 61, 61, 61, 61, 61, 61, 61, 61, 61, 61, 61, 61, 61, 61, 61, 61, 61, 61, 61, 61, 61, 61, 61, 61, 61, 61, 61, 61, 61, 61, 61, 61, 61, 61, 61, 61, 61, 61, 61, 61, 61, 61, 61, 61, 61, 61, 61, 61, 61, 61, 61, 61, 61, 61, 61, 61, 61, 61, 61, 61, 61, 61, 61, 61, 61, 61] }), Go.Operand.tmp 80], argTypes := #[9, 9] }, (some (79, true))⟩,
  ⟨some 82, Go.Op.pick (Go.Operand.tmp 79) (Go.Operand.tmp 81) (Go.Operand.const (Go.Value.bool false)), none⟩,
  ⟨some 76, Go.Op.assign (Go.Operand.tmp 82), none⟩]) (.cond (Go.Operand.tmp 76) (.seq (.reg []
  [⟨some 83, Go.Op.move (Go.Operand.tmp 7), none⟩,
  ⟨some 84, Go.Op.slice 9 (Go.Operand.const (Go.Value.string { data := #[61, 61, 61, 61, 61, 61, 61, 61, 61, 61, 61, 61, 61, 61, 61, 61, 61, 61, 61, 61, 61, 61, 61, 61, 61, 61, 61, 61, 61, 61, 61, 61, 61, 61, 61, 61, 61, 61, 61, 61, 61, 61, 61, 61, 61, 61, 61, 61, 61, 61, 61, 61, 61, 61, 61, 61, 61, 61, 61, 61, 61, 61, 61, 61, 61, 61, 61, 61, 61, 61, 61, 61, 61, 61, 61, 61, 61, 61, 61, 61, 61, 61, 61, 61, 61, 61, 61, 61, 61, 61, 61, 61, 61, 61, 61, 61, 61, 61, 61, 61, 61, 61, 61, 61, 61, 61, 61, 61, 61, 61, 61, 61, 61, 61, 61, 61, 61, 61, 61, 61, 61, 61, 61, 61, 61, 61, 61, 61] })) none (some (Go.Operand.tmp 83)) none, none⟩,
  ⟨some 4, Go.Op.assign (Go.Operand.tmp 84), none⟩]) (.ret)) (.seq (.reg []
  [⟨some 86, Go.Op.move (Go.Operand.tmp 7), none⟩,
  ⟨some 87, Go.Op.binOp Go.BinOp.leq 3 (Go.Operand.tmp 86) (Go.Operand.const (Go.Value.int Go.IntKind.i64 64)) 3, none⟩,
  ⟨some 88, Go.Op.move (Go.Operand.tmp 87), none⟩,
  ⟨some 89, Go.Op.move (Go.Operand.tmp 0), (some (88, true))⟩,
  ⟨some 90, Go.Op.call { callee := Go.Callee.value (Go.Operand.func 44), args := #[Go.Operand.const (Go.Value.string { data := #[9, 9, 9, 9, 9, 9, 9, 9, 9, 9, 9, 9, 9, 9, 9, 9, 9, 9, 9, 9, 9, 9, 9, 9, 9, 9, 9, 9, 9, 9, 9, 9, 9, 9, 9, 9, 9, 9, 9, 9, 9, 9, 9, 9, 9, 9, 9, 9, 9, 9, 9, 9, 9, 9, 9, 9, 9, 9, 9, 9, 9, 9, 9, 9] }), Go.Operand.tmp 89], argTypes := #[9, 9] }, (some (88, true))⟩,
  ⟨some 91, Go.Op.pick (Go.Operand.tmp 88) (Go.Operand.tmp 90) (Go.Operand.const (Go.Value.bool false)), none⟩,
  ⟨some 85, Go.Op.assign (Go.Operand.tmp 91), none⟩]) (.cond (Go.Operand.tmp 85) (.seq (.reg []
  [⟨some 92, Go.Op.move (Go.Operand.tmp 7), none⟩,
  ⟨some 93, Go.Op.slice 9 (Go.Operand.const (Go.Value.string { data := #[9, 9, 9, 9, 9, 9, 9, 9, 9, 9, 9, 9, 9, 9, 9, 9, 9, 9, 9, 9, 9, 9, 9, 9, 9, 9, 9, 9, 9, 9, 9, 9, 9, 9, 9, 9, 9, 9, 9, 9, 9, 9, 9, 9, 9, 9, 9, 9, 9, 9, 9, 9, 9, 9, 9, 9, 9, 9, 9, 9, 9, 9, 9, 9] })) none (some (Go.Operand.tmp 92)) none, none⟩,
  ⟨some 4, Go.Op.assign (Go.Operand.tmp 93), none⟩]) (.ret)) (.skip)))))))))))) (.skip))))) (.seq (.reg []
  [⟨some 94, Go.Op.move (Go.Operand.tmp 7), none⟩,
  ⟨some 8, Go.Op.assign (Go.Operand.tmp 94), none⟩]) (.seq (.seq (.reg []
  [⟨some 95, Go.Op.move (Go.Operand.tmp 7), none⟩,
  ⟨some 96, Go.Op.binOp Go.BinOp.gtr 3 (Go.Operand.tmp 95) (Go.Operand.const (Go.Value.int Go.IntKind.i64 8192)) 3, none⟩]) (.cond (Go.Operand.tmp 96) (.seq (.reg []
  [⟨some 97, Go.Op.move (Go.Operand.tmp 0), none⟩,
  ⟨some 98, Go.Op.call { callee := Go.Callee.builtin Go.Builtin.len, args := #[Go.Operand.tmp 97], argTypes := #[9] }, none⟩,
  ⟨some 99, Go.Op.binOp Go.BinOp.quo 3 (Go.Operand.const (Go.Value.int Go.IntKind.i64 8192)) (Go.Operand.tmp 98) 3, none⟩,
  ⟨some 100, Go.Op.move (Go.Operand.tmp 0), none⟩,
  ⟨some 101, Go.Op.call { callee := Go.Callee.builtin Go.Builtin.len, args := #[Go.Operand.tmp 100], argTypes := #[9] }, none⟩,
  ⟨some 102, Go.Op.binOp Go.BinOp.mul 3 (Go.Operand.tmp 99) (Go.Operand.tmp 101) 3, none⟩,
  ⟨some 8, Go.Op.assign (Go.Operand.tmp 102), none⟩]) (.seq (.reg []
  [⟨some 103, Go.Op.move (Go.Operand.tmp 8), none⟩,
  ⟨some 104, Go.Op.binOp Go.BinOp.eql 3 (Go.Operand.tmp 103) (Go.Operand.const (Go.Value.int Go.IntKind.i64 0)) 3, none⟩]) (.cond (Go.Operand.tmp 104) (.reg []
  [⟨some 105, Go.Op.move (Go.Operand.tmp 0), none⟩,
  ⟨some 106, Go.Op.call { callee := Go.Callee.builtin Go.Builtin.len, args := #[Go.Operand.tmp 105], argTypes := #[9] }, none⟩,
  ⟨some 8, Go.Op.assign (Go.Operand.tmp 106), none⟩]) (.skip)))) (.skip))) (.seq (.reg []
  [⟨some 9, Go.Op.alloc 48, none⟩]) (.seq (.reg []
  [⟨some 107, Go.Op.move (Go.Operand.tmp 7), none⟩,
  ⟨some 108, Go.Op.call { callee := Go.Callee.value (Go.Operand.func 45), args := #[Go.Operand.tmp 9, Go.Operand.tmp 107], argTypes := #[48, 3] }, none⟩]) (.seq (.reg []
  [⟨some 109, Go.Op.move (Go.Operand.tmp 0), none⟩,
  ⟨some 110, Go.Op.call { callee := Go.Callee.value (Go.Operand.func 26), args := #[Go.Operand.tmp 9, Go.Operand.tmp 109], argTypes := #[48, 9] }, none⟩]) (.seq (.block 3 (.loop (.seq (.seq (.reg []
  [⟨some 111, Go.Op.call { callee := Go.Callee.value (Go.Operand.func 46), args := #[Go.Operand.tmp 9], argTypes := #[48] }, none⟩,
  ⟨some 112, Go.Op.move (Go.Operand.tmp 7), none⟩,
  ⟨some 113, Go.Op.binOp Go.BinOp.lss 3 (Go.Operand.tmp 111) (Go.Operand.tmp 112) 3, none⟩]) (.cond (Go.Operand.tmp 113) (.skip) (.exit 3))) (.block 4 (.seq (.reg []
  [⟨some 114, Go.Op.move (Go.Operand.tmp 7), none⟩,
  ⟨some 115, Go.Op.call { callee := Go.Callee.value (Go.Operand.func 46), args := #[Go.Operand.tmp 9], argTypes := #[48] }, none⟩,
  ⟨some 116, Go.Op.binOp Go.BinOp.sub 3 (Go.Operand.tmp 114) (Go.Operand.tmp 115) 3, none⟩,
  ⟨some 117, Go.Op.call { callee := Go.Callee.value (Go.Operand.func 46), args := #[Go.Operand.tmp 9], argTypes := #[48] }, none⟩,
  ⟨some 118, Go.Op.move (Go.Operand.tmp 8), none⟩,
  ⟨some 119, Go.Op.call { callee := Go.Callee.builtin Go.Builtin.min, args := #[Go.Operand.tmp 116, Go.Operand.tmp 117, Go.Operand.tmp 118], argTypes := #[3, 3, 3] }, none⟩,
  ⟨some 10, Go.Op.assign (Go.Operand.tmp 119), none⟩]) (.reg []
  [⟨some 120, Go.Op.call { callee := Go.Callee.value (Go.Operand.func 28), args := #[Go.Operand.tmp 9], argTypes := #[48] }, none⟩,
  ⟨some 121, Go.Op.move (Go.Operand.tmp 10), none⟩,
  ⟨some 122, Go.Op.slice 9 (Go.Operand.tmp 120) none (some (Go.Operand.tmp 121)) none, none⟩,
  ⟨some 123, Go.Op.call { callee := Go.Callee.value (Go.Operand.func 26), args := #[Go.Operand.tmp 9, Go.Operand.tmp 122], argTypes := #[48, 9] }, none⟩])))))) (.seq (.reg []
  [⟨some 124, Go.Op.call { callee := Go.Callee.value (Go.Operand.func 28), args := #[Go.Operand.tmp 9], argTypes := #[48] }, none⟩,
  ⟨some 4, Go.Op.assign (Go.Operand.tmp 124), none⟩]) (.ret)))))))))))))))
def ms38_0 : List Nat := [0, 1, 2, 3, 5, 6, 10, 11, 12, 13, 14, 15, 16, 17, 18, 19, 20, 21, 22, 23, 24, 25, 26, 27, 28, 29, 30, 31, 32, 33, 34, 35, 36, 37, 38, 39, 40, 41, 42, 43, 44, 45, 46, 47, 48, 49, 50, 51, 52, 53, 54, 55, 56, 57, 58, 59, 60, 61, 62, 63, 64, 65, 66, 67, 68, 69, 70, 71, 72, 73, 74, 75, 76, 77, 78, 79, 80, 81, 82, 83, 84, 85, 86, 87, 88, 89, 90, 91, 92, 93, 94, 95, 96, 97, 98, 99, 100, 101, 102, 103, 104, 105, 106, 107, 108, 109, 110, 111, 112, 113, 114, 115, 116, 117, 118, 119, 120, 121, 122, 123]
def mj38_0 : List Nat := [2, 3, 4, 11, 12, 13, 14, 15, 16, 108, 110, 123]
def mj38_1 : List Nat := [2, 3, 4, 11, 12, 13, 14, 15, 16, 108, 110, 123]
def mj38_2 : List Nat := [2, 3, 11, 12, 13, 14, 15, 16, 17, 18, 19, 108, 110, 123]
def mj38_3 : List Nat := [1, 2, 3, 5, 11, 12, 13, 14, 15, 16, 17, 18, 19, 20, 21, 22, 23, 24, 25, 26, 27, 28, 29, 30, 31, 32, 33, 34, 35, 108, 110, 123]
def mj38_4 : List Nat := [1, 2, 3, 4, 5, 6, 11, 12, 13, 14, 15, 16, 17, 18, 19, 20, 21, 22, 23, 24, 25, 26, 27, 28, 29, 30, 31, 32, 33, 34, 35, 36, 37, 38, 39, 40, 108, 110, 123]
def mj38_5 : List Nat := [1, 2, 3, 5, 6, 11, 12, 13, 14, 15, 16, 17, 18, 19, 20, 21, 22, 23, 24, 25, 26, 27, 28, 29, 30, 31, 32, 33, 34, 35, 36, 37, 38, 39, 40, 41, 42, 43, 44, 45, 46, 47, 48, 108, 110, 123]
def mj38_6 : List Nat := [1, 2, 3, 5, 6, 11, 12, 13, 14, 15, 16, 17, 18, 19, 20, 21, 22, 23, 24, 25, 26, 27, 28, 29, 30, 31, 32, 33, 34, 35, 36, 37, 38, 39, 40, 41, 42, 43, 44, 45, 46, 47, 48, 108, 110, 123]
def mj38_7 : List Nat := [1, 2, 3, 5, 6, 11, 12, 13, 14, 15, 16, 17, 18, 19, 20, 21, 22, 23, 24, 25, 26, 27, 28, 29, 30, 31, 32, 33, 34, 35, 36, 37, 38, 39, 40, 41, 42, 43, 44, 45, 46, 47, 48, 108, 110, 123]
def mj38_8 : List Nat := [1, 2, 3, 5, 6, 11, 12, 13, 14, 15, 16, 17, 18, 19, 20, 21, 22, 23, 24, 25, 26, 27, 28, 29, 30, 31, 32, 33, 34, 35, 36, 37, 38, 39, 40, 41, 42, 43, 44, 45, 46, 47, 48, 108, 110, 123]
def mj38_9 : List Nat := [1, 2, 3, 4, 5, 6, 11, 12, 13, 14, 15, 16, 17, 18, 19, 20, 21, 22, 23, 24, 25, 26, 27, 28, 29, 30, 31, 32, 33, 34, 35, 36, 37, 38, 39, 40, 41, 42, 43, 44, 45, 46, 47, 48, 49, 50, 51, 52, 53, 54, 55, 56, 57, 58, 59, 60, 61, 62, 63, 64, 65, 66, 67, 68, 69, 70, 71, 72, 73, 74, 75, 76, 77, 78, 79, 80, 81, 82, 83, 84, 85, 86, 87, 88, 89, 90, 91, 92, 93, 108, 110, 123]
def mj38_10 : List Nat := [1, 2, 3, 4, 5, 6, 11, 12, 13, 14, 15, 16, 17, 18, 19, 20, 21, 22, 23, 24, 25, 26, 27, 28, 29, 30, 31, 32, 33, 34, 35, 36, 37, 38, 39, 40, 41, 42, 43, 44, 45, 46, 47, 48, 49, 50, 51, 52, 53, 54, 55, 56, 57, 58, 59, 60, 61, 62, 63, 64, 65, 66, 67, 68, 69, 70, 71, 72, 73, 74, 75, 76, 77, 78, 79, 80, 81, 82, 83, 84, 85, 86, 87, 88, 89, 90, 91, 92, 93, 108, 110, 123]
def mj38_11 : List Nat := [1, 2, 3, 4, 5, 6, 11, 12, 13, 14, 15, 16, 17, 18, 19, 20, 21, 22, 23, 24, 25, 26, 27, 28, 29, 30, 31, 32, 33, 34, 35, 36, 37, 38, 39, 40, 41, 42, 43, 44, 45, 46, 47, 48, 49, 50, 51, 52, 53, 54, 55, 56, 57, 58, 59, 60, 61, 62, 63, 64, 65, 66, 67, 68, 69, 70, 71, 72, 73, 74, 75, 76, 77, 78, 79, 80, 81, 82, 83, 84, 85, 86, 87, 88, 89, 90, 91, 92, 93, 108, 110, 123]
def mj38_12 : List Nat := [1, 2, 3, 4, 5, 6, 11, 12, 13, 14, 15, 16, 17, 18, 19, 20, 21, 22, 23, 24, 25, 26, 27, 28, 29, 30, 31, 32, 33, 34, 35, 36, 37, 38, 39, 40, 41, 42, 43, 44, 45, 46, 47, 48, 49, 50, 51, 52, 53, 54, 55, 56, 57, 58, 59, 60, 61, 62, 63, 64, 65, 66, 67, 68, 69, 70, 71, 72, 73, 74, 75, 76, 77, 78, 79, 80, 81, 82, 83, 84, 85, 86, 87, 88, 89, 90, 91, 92, 93, 108, 110, 123]
def mj38_13 : List Nat := [1, 2, 3, 4, 5, 6, 11, 12, 13, 14, 15, 16, 17, 18, 19, 20, 21, 22, 23, 24, 25, 26, 27, 28, 29, 30, 31, 32, 33, 34, 35, 36, 37, 38, 39, 40, 41, 42, 43, 44, 45, 46, 47, 48, 49, 50, 51, 52, 53, 54, 55, 56, 57, 58, 59, 60, 61, 62, 63, 64, 65, 66, 67, 68, 69, 70, 71, 72, 73, 74, 75, 76, 77, 78, 79, 80, 81, 82, 83, 84, 85, 86, 87, 88, 89, 90, 91, 92, 93, 108, 110, 123]
def mj38_14 : List Nat := [1, 2, 3, 4, 5, 6, 11, 12, 13, 14, 15, 16, 17, 18, 19, 20, 21, 22, 23, 24, 25, 26, 27, 28, 29, 30, 31, 32, 33, 34, 35, 36, 37, 38, 39, 40, 41, 42, 43, 44, 45, 46, 47, 48, 49, 50, 51, 52, 53, 54, 55, 56, 57, 58, 59, 60, 61, 62, 63, 64, 65, 66, 67, 68, 69, 70, 71, 72, 73, 74, 75, 76, 77, 78, 79, 80, 81, 82, 83, 84, 85, 86, 87, 88, 89, 90, 91, 92, 93, 108, 110, 123]
def mj38_15 : List Nat := [1, 2, 3, 5, 6, 8, 11, 12, 13, 14, 15, 16, 17, 18, 19, 20, 21, 22, 23, 24, 25, 26, 27, 28, 29, 30, 31, 32, 33, 34, 35, 36, 37, 38, 39, 40, 41, 42, 43, 44, 45, 46, 47, 48, 49, 50, 51, 52, 53, 54, 55, 56, 57, 58, 59, 60, 61, 62, 63, 64, 65, 66, 67, 68, 69, 70, 71, 72, 73, 74, 75, 76, 77, 78, 79, 80, 81, 82, 83, 84, 85, 86, 87, 88, 89, 90, 91, 92, 93, 94, 95, 96, 97, 98, 99, 100, 101, 102, 103, 104, 105, 106, 108, 110, 123]
def mj38_16 : List Nat := [1, 2, 3, 5, 6, 8, 11, 12, 13, 14, 15, 16, 17, 18, 19, 20, 21, 22, 23, 24, 25, 26, 27, 28, 29, 30, 31, 32, 33, 34, 35, 36, 37, 38, 39, 40, 41, 42, 43, 44, 45, 46, 47, 48, 49, 50, 51, 52, 53, 54, 55, 56, 57, 58, 59, 60, 61, 62, 63, 64, 65, 66, 67, 68, 69, 70, 71, 72, 73, 74, 75, 76, 77, 78, 79, 80, 81, 82, 83, 84, 85, 86, 87, 88, 89, 90, 91, 92, 93, 94, 95, 96, 97, 98, 99, 100, 101, 102, 103, 104, 105, 106, 108, 110, 123]
def mj38_17 : List Nat := [0, 1, 2, 3, 5, 6, 11, 12, 13, 14, 15, 16, 17, 18, 19, 20, 21, 22, 23, 24, 25, 26, 27, 28, 29, 30, 31, 32, 33, 34, 35, 36, 37, 38, 39, 40, 41, 42, 43, 44, 45, 46, 47, 48, 49, 50, 51, 52, 53, 54, 55, 56, 57, 58, 59, 60, 61, 62, 63, 64, 65, 66, 67, 68, 69, 70, 71, 72, 73, 74, 75, 76, 77, 78, 79, 80, 81, 82, 83, 84, 85, 86, 87, 88, 89, 90, 91, 92, 93, 94, 95, 96, 97, 98, 99, 100, 101, 102, 103, 104, 105, 106, 107, 108, 109, 110, 123]
theorem ls38 : Tryd.f38.body.map (strip Tryd.prog impCodA) = some lc38 := by kernel_rfl
theorem lcall38 {args : List AV} (hargs : args.length ≤ 125) {H0 : AHeap} (lo : Nat) (hlo : H0.length ≤ lo) {r0 : AV} {H0' : AHeap}
    (h : lavc Tryd.prog glob lc38 (args ++ List.replicate (125 - args.length) (.v undef)) H0 fun e t H => (e = .normal ∨ e = .ret) ∧ aret Tryd.prog t H [Go.ResultVar.tmp 4] fun r => Fin lo H r r0 H0') :
    ACall Tryd.prog glob (H0.length == 0) 38 args H0 r0 H0' := LCall' ctx Tryd.func38 (by kernel_rfl) ls38 (by kernel_rfl) (by kernel_rfl) hargs lo hlo h
theorem lcallk38 {args : List AV} (hargs : args.length ≤ 125) {H0 : AHeap} {r0 : AV} {H0' : AHeap}
    (h : lavc Tryd.prog glob lc38 (args ++ List.replicate (125 - args.length) (.v undef)) H0 fun e t H => (e = .normal ∨ e = .ret) ∧ aret Tryd.prog t H [Go.ResultVar.tmp 4] fun r => r = r0 ∧ H = H0') :
    ACall Tryd.prog glob false 38 args H0 r0 H0' := LCallK' ctx Tryd.func38 (by kernel_rfl) ls38 (by kernel_rfl) (by kernel_rfl) hargs h
/-- internal/strconv.Atoi -/
def lc39 : LCode := .seq (.reg []
  [⟨some 2, Go.Op.assign (Go.Operand.const (Go.Value.int Go.IntKind.i64 0)), none⟩,
  ⟨some 3, Go.Op.assign (Go.Operand.const Go.Value.nilIface), none⟩]) (.seq (.reg []
  [⟨some 11, Go.Op.move (Go.Operand.tmp 0), none⟩,
  ⟨some 12, Go.Op.call { callee := Go.Callee.builtin Go.Builtin.len, args := #[Go.Operand.tmp 11], argTypes := #[9] }, none⟩,
  ⟨some 4, Go.Op.assign (Go.Operand.tmp 12), none⟩]) (.seq (.seq (.reg []
  [⟨some 13, Go.Op.move (Go.Operand.const (Go.Value.bool false)), none⟩,
  ⟨some 14, Go.Op.move (Go.Operand.tmp 4), (some (13, true))⟩,
  ⟨some 15, Go.Op.binOp Go.BinOp.lss 3 (Go.Operand.const (Go.Value.int Go.IntKind.i64 0)) (Go.Operand.tmp 14) 3, (some (13, true))⟩,
  ⟨some 16, Go.Op.move (Go.Operand.tmp 15), (some (13, true))⟩,
  ⟨some 17, Go.Op.move (Go.Operand.tmp 4), (some (16, true))⟩,
  ⟨some 18, Go.Op.binOp Go.BinOp.lss 3 (Go.Operand.tmp 17) (Go.Operand.const (Go.Value.int Go.IntKind.i64 10)) 3, (some (16, true))⟩,
  ⟨some 19, Go.Op.pick (Go.Operand.tmp 16) (Go.Operand.tmp 18) (Go.Operand.const (Go.Value.bool false)), (some (13, true))⟩,
  ⟨some 20, Go.Op.pick (Go.Operand.tmp 13) (Go.Operand.tmp 19) (Go.Operand.const (Go.Value.bool false)), none⟩,
  ⟨some 21, Go.Op.move (Go.Operand.tmp 20), none⟩,
  ⟨some 22, Go.Op.move (Go.Operand.const (Go.Value.bool true)), (some (21, false))⟩,
  ⟨some 23, Go.Op.move (Go.Operand.tmp 4), (some (22, true))⟩,
  ⟨some 24, Go.Op.binOp Go.BinOp.lss 3 (Go.Operand.const (Go.Value.int Go.IntKind.i64 0)) (Go.Operand.tmp 23) 3, (some (22, true))⟩,
  ⟨some 25, Go.Op.move (Go.Operand.tmp 24), (some (22, true))⟩,
  ⟨some 26, Go.Op.move (Go.Operand.tmp 4), (some (25, true))⟩,
  ⟨some 27, Go.Op.binOp Go.BinOp.lss 3 (Go.Operand.tmp 26) (Go.Operand.const (Go.Value.int Go.IntKind.i64 19)) 3, (some (25, true))⟩,
  ⟨some 28, Go.Op.pick (Go.Operand.tmp 25) (Go.Operand.tmp 27) (Go.Operand.const (Go.Value.bool false)), (some (22, true))⟩,
  ⟨some 29, Go.Op.pick (Go.Operand.tmp 22) (Go.Operand.tmp 28) (Go.Operand.const (Go.Value.bool false)), (some (21, false))⟩,
  ⟨some 30, Go.Op.pick (Go.Operand.tmp 21) (Go.Operand.const (Go.Value.bool true)) (Go.Operand.tmp 29), none⟩]) (.cond (Go.Operand.tmp 30) (.seq (.reg []
  [⟨some 31, Go.Op.move (Go.Operand.tmp 0), none⟩,
  ⟨some 5, Go.Op.assign (Go.Operand.tmp 31), none⟩]) (.seq (.seq (.reg []
  [⟨some 32, Go.Op.move (Go.Operand.tmp 0), none⟩,
  ⟨some 33, Go.Op.index 9 (Go.Operand.tmp 32) (Go.Operand.const (Go.Value.int Go.IntKind.i64 0)), none⟩,
  ⟨some 34, Go.Op.binOp Go.BinOp.eql 5 (Go.Operand.tmp 33) (Go.Operand.const (Go.Value.int Go.IntKind.u8 45)) 5, none⟩,
  ⟨some 35, Go.Op.move (Go.Operand.tmp 34), none⟩,
  ⟨some 36, Go.Op.move (Go.Operand.tmp 0), (some (35, false))⟩,
  ⟨some 37, Go.Op.index 9 (Go.Operand.tmp 36) (Go.Operand.const (Go.Value.int Go.IntKind.i64 0)), (some (35, false))⟩,
  ⟨some 38, Go.Op.binOp Go.BinOp.eql 5 (Go.Operand.tmp 37) (Go.Operand.const (Go.Value.int Go.IntKind.u8 43)) 5, (some (35, false))⟩,
  ⟨some 39, Go.Op.pick (Go.Operand.tmp 35) (Go.Operand.const (Go.Value.bool true)) (Go.Operand.tmp 38), none⟩]) (.cond (Go.Operand.tmp 39) (.seq (.reg []
  [⟨some 40, Go.Op.move (Go.Operand.tmp 0), none⟩,
  ⟨some 41, Go.Op.slice 9 (Go.Operand.tmp 40) (some (Go.Operand.const (Go.Value.int Go.IntKind.i64 1))) none none, none⟩,
  ⟨some 0, Go.Op.assign (Go.Operand.tmp 41), none⟩]) (.seq (.reg []
  [⟨some 42, Go.Op.move (Go.Operand.tmp 0), none⟩,
  ⟨some 43, Go.Op.call { callee := Go.Callee.builtin Go.Builtin.len, args := #[Go.Operand.tmp 42], argTypes := #[9] }, none⟩,
  ⟨some 44, Go.Op.binOp Go.BinOp.lss 3 (Go.Operand.tmp 43) (Go.Operand.const (Go.Value.int Go.IntKind.i64 1)) 3, none⟩]) (.cond (Go.Operand.tmp 44) (.seq (.reg []
  [⟨some 45, Go.Op.makeInterface 68 (Go.Operand.const (Go.Value.int Go.IntKind.i64 2)), none⟩,
  ⟨some 2, Go.Op.assign (Go.Operand.const (Go.Value.int Go.IntKind.i64 0)), none⟩,
  ⟨some 3, Go.Op.assign (Go.Operand.tmp 45), none⟩]) (.ret)) (.skip)))) (.skip))) (.seq (.reg []
  [⟨some 6, Go.Op.assign (Go.Operand.const (Go.Value.int Go.IntKind.i64 0)), none⟩]) (.seq (.seq (.reg []
  [⟨some 46, Go.Op.move (Go.Operand.tmp 0), none⟩,
  ⟨some 47, Go.Op.convert 9 36 (Go.Operand.tmp 46), none⟩,
  ⟨some 48, Go.Op.call { callee := Go.Callee.builtin Go.Builtin.len, args := #[Go.Operand.tmp 47], argTypes := #[36] }, none⟩,
  ⟨some 49, Go.Op.move (Go.Operand.const (Go.Value.int Go.IntKind.i64 0)), none⟩]) (.block 0 (.loop (.seq (.reg []
  [⟨some 50, Go.Op.binOp Go.BinOp.lss 3 (Go.Operand.tmp 49) (Go.Operand.tmp 48) 3, none⟩]) (.seq (.cond (Go.Operand.tmp 50) (.skip) (.exit 0)) (.seq (.block 1 (.seq (.reg []
  [⟨some 51, Go.Op.indexAddr 36 (Go.Operand.tmp 47) (Go.Operand.tmp 49), none⟩,
  ⟨some 52, Go.Op.load 5 (Go.Operand.tmp 51), none⟩,
  ⟨some 8, Go.Op.assign (Go.Operand.tmp 52), none⟩]) (.seq (.reg []
  [⟨some 53, Go.Op.move (Go.Operand.tmp 8), none⟩,
  ⟨some 54, Go.Op.binOp Go.BinOp.sub 5 (Go.Operand.tmp 53) (Go.Operand.const (Go.Value.int Go.IntKind.u8 48)) 5, none⟩,
  ⟨some 8, Go.Op.assign (Go.Operand.tmp 54), none⟩]) (.seq (.seq (.reg []
  [⟨some 55, Go.Op.move (Go.Operand.tmp 8), none⟩,
  ⟨some 56, Go.Op.binOp Go.BinOp.gtr 5 (Go.Operand.tmp 55) (Go.Operand.const (Go.Value.int Go.IntKind.u8 9)) 5, none⟩]) (.cond (Go.Operand.tmp 56) (.seq (.reg []
  [⟨some 57, Go.Op.makeInterface 68 (Go.Operand.const (Go.Value.int Go.IntKind.i64 2)), none⟩,
  ⟨some 2, Go.Op.assign (Go.Operand.const (Go.Value.int Go.IntKind.i64 0)), none⟩,
  ⟨some 3, Go.Op.assign (Go.Operand.tmp 57), none⟩]) (.ret)) (.skip))) (.reg []
  [⟨some 58, Go.Op.move (Go.Operand.tmp 6), none⟩,
  ⟨some 59, Go.Op.binOp Go.BinOp.mul 3 (Go.Operand.tmp 58) (Go.Operand.const (Go.Value.int Go.IntKind.i64 10)) 3, none⟩,
  ⟨some 60, Go.Op.move (Go.Operand.tmp 8), none⟩,
  ⟨some 61, Go.Op.convert 5 3 (Go.Operand.tmp 60), none⟩,
  ⟨some 62, Go.Op.binOp Go.BinOp.add 3 (Go.Operand.tmp 59) (Go.Operand.tmp 61) 3, none⟩,
  ⟨some 6, Go.Op.assign (Go.Operand.tmp 62), none⟩]))))) (.reg []
  [⟨some 63, Go.Op.binOp Go.BinOp.add 3 (Go.Operand.tmp 49) (Go.Operand.const (Go.Value.int Go.IntKind.i64 1)) 3, none⟩,
  ⟨some 49, Go.Op.move (Go.Operand.tmp 63), none⟩]))))))) (.seq (.seq (.reg []
  [⟨some 64, Go.Op.move (Go.Operand.tmp 5), none⟩,
  ⟨some 65, Go.Op.index 9 (Go.Operand.tmp 64) (Go.Operand.const (Go.Value.int Go.IntKind.i64 0)), none⟩,
  ⟨some 66, Go.Op.binOp Go.BinOp.eql 5 (Go.Operand.tmp 65) (Go.Operand.const (Go.Value.int Go.IntKind.u8 45)) 5, none⟩]) (.cond (Go.Operand.tmp 66) (.reg []
  [⟨some 67, Go.Op.move (Go.Operand.tmp 6), none⟩,
  ⟨some 68, Go.Op.unOp Go.UnOp.neg 3 (Go.Operand.tmp 67), none⟩,
  ⟨some 6, Go.Op.assign (Go.Operand.tmp 68), none⟩]) (.skip))) (.seq (.reg []
  [⟨some 69, Go.Op.move (Go.Operand.tmp 6), none⟩,
  ⟨some 2, Go.Op.assign (Go.Operand.tmp 69), none⟩,
  ⟨some 3, Go.Op.assign (Go.Operand.const Go.Value.nilIface), none⟩]) (.ret))))))) (.skip))) (.seq (.reg []
  [⟨some 71, Go.Op.move (Go.Operand.tmp 0), none⟩,
  ⟨some 72, Go.Op.call { callee := Go.Callee.value (Go.Operand.func 47), args := #[Go.Operand.tmp 71, Go.Operand.const (Go.Value.int Go.IntKind.i64 10), Go.Operand.const (Go.Value.int Go.IntKind.i64 0)], argTypes := #[9, 3, 3] }, none⟩,
  ⟨some 70, Go.Op.move (Go.Operand.tmp 72), none⟩,
  ⟨some 73, Go.Op.extract (Go.Operand.tmp 70) 0, none⟩,
  ⟨some 74, Go.Op.extract (Go.Operand.tmp 70) 1, none⟩,
  ⟨some 9, Go.Op.assign (Go.Operand.tmp 73), none⟩,
  ⟨some 10, Go.Op.assign (Go.Operand.tmp 74), none⟩]) (.seq (.reg []
  [⟨some 75, Go.Op.move (Go.Operand.tmp 9), none⟩,
  ⟨some 76, Go.Op.move (Go.Operand.tmp 10), none⟩,
  ⟨some 2, Go.Op.assign (Go.Operand.tmp 75), none⟩,
  ⟨some 3, Go.Op.assign (Go.Operand.tmp 76), none⟩]) (.ret)))))
def ms39_0 : List Nat := [1, 2, 3, 4, 6, 7, 8, 11, 12, 13, 14, 15, 16, 17, 18, 19, 20, 21, 22, 23, 24, 25, 26, 27, 28, 29, 30, 31, 32, 33, 34, 35, 36, 37, 38, 39, 40, 41, 42, 43, 44, 45, 46, 49, 50, 51, 52, 53, 54, 55, 56, 57, 58, 59, 60, 61, 62, 63]
def mj39_0 : List Nat := [0, 1, 2, 3, 4, 5, 6, 7, 8, 11, 12, 13, 14, 15, 16, 17, 18, 19, 20, 21, 22, 23, 24, 25, 26, 27, 28, 29, 30, 31, 32, 33, 34, 35, 36, 37, 38, 39, 40, 41, 42, 43, 44, 45, 46, 47, 48, 49, 50, 51, 52, 53, 54, 55, 56, 57, 58, 59, 60, 61, 62, 63, 64, 65, 66, 67, 68, 69]
def mj39_1 : List Nat := [0, 1, 2, 3, 4, 7, 11, 12, 13, 14, 15, 16, 17, 18, 19, 20, 21, 22, 23, 24, 25, 26, 27, 28, 29, 30, 31, 32, 33, 34, 35, 36, 37, 38, 39, 40, 41, 42, 43, 44, 45]
def mj39_2 : List Nat := [1, 2, 3, 4, 7, 11, 12, 13, 14, 15, 16, 17, 18, 19, 20, 21, 22, 23, 24, 25, 26, 27, 28, 29, 30, 31, 32, 33, 34, 35, 36, 37, 38, 39, 40, 41, 42, 43, 44, 45]
def mj39_3 : List Nat := [1, 4, 7, 11, 12, 13, 14, 15, 16, 17, 18, 19, 20, 21, 22, 23, 24, 25, 26, 27, 28, 29, 30, 31, 32, 33, 34, 35, 36, 37, 38, 39, 40, 41, 42, 43, 44, 45, 46]
def mj39_4 : List Nat := [1, 2, 3, 4, 7, 11, 12, 13, 14, 15, 16, 17, 18, 19, 20, 21, 22, 23, 24, 25, 26, 27, 28, 29, 30, 31, 32, 33, 34, 35, 36, 37, 38, 39, 40, 41, 42, 43, 44, 45, 46, 57]
def mj39_5 : List Nat := [1, 4, 5, 6, 7, 8, 11, 12, 13, 14, 15, 16, 17, 18, 19, 20, 21, 22, 23, 24, 25, 26, 27, 28, 29, 30, 31, 32, 33, 34, 35, 36, 37, 38, 39, 40, 41, 42, 43, 44, 45, 46, 47, 48, 49, 50, 51, 52, 53, 54, 55, 56, 57, 58, 59, 60, 61, 62, 63, 64, 65, 66, 67, 68]
theorem ls39 : Tryd.f39.body.map (strip Tryd.prog impCodA) = some lc39 := by kernel_rfl
theorem lcall39 {args : List AV} (hargs : args.length ≤ 77) {H0 : AHeap} (lo : Nat) (hlo : H0.length ≤ lo) {r0 : AV} {H0' : AHeap}
    (h : lavc Tryd.prog glob lc39 (args ++ List.replicate (77 - args.length) (.v undef)) H0 fun e t H => (e = .normal ∨ e = .ret) ∧ aret Tryd.prog t H [Go.ResultVar.tmp 2, Go.ResultVar.tmp 3] fun r => Fin lo H r r0 H0') :
    ACall Tryd.prog glob (H0.length == 0) 39 args H0 r0 H0' := LCall' ctx Tryd.func39 (by kernel_rfl) ls39 (by kernel_rfl) (by kernel_rfl) hargs lo hlo h
theorem lcallk39 {args : List AV} (hargs : args.length ≤ 77) {H0 : AHeap} {r0 : AV} {H0' : AHeap}
    (h : lavc Tryd.prog glob lc39 (args ++ List.replicate (77 - args.length) (.v undef)) H0 fun e t H => (e = .normal ∨ e = .ret) ∧ aret Tryd.prog t H [Go.ResultVar.tmp 2, Go.ResultVar.tmp 3] fun r => r = r0 ∧ H = H0') :
    ACall Tryd.prog glob false 39 args H0 r0 H0' := LCallK' ctx Tryd.func39 (by kernel_rfl) ls39 (by kernel_rfl) (by kernel_rfl) hargs h
/-- internal/strconv.Itoa -/
def lc42 : LCode := .seq (.reg []
  [⟨some 2, Go.Op.assign (Go.Operand.const (Go.Value.string { data := #[] })), none⟩]) (.seq (.reg []
  [⟨some 3, Go.Op.move (Go.Operand.tmp 0), none⟩,
  ⟨some 4, Go.Op.call { callee := Go.Callee.value (Go.Operand.func 52), args := #[Go.Operand.tmp 3, Go.Operand.const (Go.Value.int Go.IntKind.i64 10)], argTypes := #[2, 3] }, none⟩,
  ⟨some 2, Go.Op.assign (Go.Operand.tmp 4), none⟩]) (.ret))
theorem ls42 : Tryd.f42.body.map (strip Tryd.prog impCodA) = some lc42 := by kernel_rfl
theorem lcall42 {args : List AV} (hargs : args.length ≤ 5) {H0 : AHeap} (lo : Nat) (hlo : H0.length ≤ lo) {r0 : AV} {H0' : AHeap}
    (h : lavc Tryd.prog glob lc42 (args ++ List.replicate (5 - args.length) (.v undef)) H0 fun e t H => (e = .normal ∨ e = .ret) ∧ aret Tryd.prog t H [Go.ResultVar.tmp 2] fun r => Fin lo H r r0 H0') :
    ACall Tryd.prog glob (H0.length == 0) 42 args H0 r0 H0' := LCall' ctx Tryd.func42 (by kernel_rfl) ls42 (by kernel_rfl) (by kernel_rfl) hargs lo hlo h
theorem lcallk42 {args : List AV} (hargs : args.length ≤ 5) {H0 : AHeap} {r0 : AV} {H0' : AHeap}
    (h : lavc Tryd.prog glob lc42 (args ++ List.replicate (5 - args.length) (.v undef)) H0 fun e t H => (e = .normal ∨ e = .ret) ∧ aret Tryd.prog t H [Go.ResultVar.tmp 2] fun r => r = r0 ∧ H = H0') :
    ACall Tryd.prog glob false 42 args H0 r0 H0' := LCallK' ctx Tryd.func42 (by kernel_rfl) ls42 (by kernel_rfl) (by kernel_rfl) hargs h
/-- math/bits.Mul -/
def lc43 : LCode := .seq (.reg []
  [⟨some 4, Go.Op.assign (Go.Operand.const (Go.Value.int Go.IntKind.u64 0)), none⟩,
  ⟨some 5, Go.Op.assign (Go.Operand.const (Go.Value.int Go.IntKind.u64 0)), none⟩]) (.seq (.cond (Go.Operand.const (Go.Value.bool false)) (.seq (.reg []
  [⟨some 11, Go.Op.move (Go.Operand.tmp 0), none⟩,
  ⟨some 12, Go.Op.convert 64 75 (Go.Operand.tmp 11), none⟩,
  ⟨some 13, Go.Op.move (Go.Operand.tmp 1), none⟩,
  ⟨some 14, Go.Op.convert 64 75 (Go.Operand.tmp 13), none⟩,
  ⟨some 15, Go.Op.call { callee := Go.Callee.value (Go.Operand.func 53), args := #[Go.Operand.tmp 12, Go.Operand.tmp 14], argTypes := #[75, 75] }, none⟩,
  ⟨some 10, Go.Op.move (Go.Operand.tmp 15), none⟩,
  ⟨some 16, Go.Op.extract (Go.Operand.tmp 10) 0, none⟩,
  ⟨some 17, Go.Op.extract (Go.Operand.tmp 10) 1, none⟩,
  ⟨some 6, Go.Op.assign (Go.Operand.tmp 16), none⟩,
  ⟨some 7, Go.Op.assign (Go.Operand.tmp 17), none⟩]) (.seq (.reg []
  [⟨some 18, Go.Op.move (Go.Operand.tmp 6), none⟩,
  ⟨some 19, Go.Op.convert 75 64 (Go.Operand.tmp 18), none⟩,
  ⟨some 20, Go.Op.move (Go.Operand.tmp 7), none⟩,
  ⟨some 21, Go.Op.convert 75 64 (Go.Operand.tmp 20), none⟩,
  ⟨some 4, Go.Op.assign (Go.Operand.tmp 19), none⟩,
  ⟨some 5, Go.Op.assign (Go.Operand.tmp 21), none⟩]) (.ret))) (.skip)) (.seq (.reg []
  [⟨some 23, Go.Op.move (Go.Operand.tmp 0), none⟩,
  ⟨some 24, Go.Op.move (Go.Operand.tmp 1), none⟩,
  ⟨some 25, Go.Op.call { callee := Go.Callee.value (Go.Operand.func 54), args := #[Go.Operand.tmp 23, Go.Operand.tmp 24], argTypes := #[78, 78] }, none⟩,
  ⟨some 22, Go.Op.move (Go.Operand.tmp 25), none⟩,
  ⟨some 26, Go.Op.extract (Go.Operand.tmp 22) 0, none⟩,
  ⟨some 27, Go.Op.extract (Go.Operand.tmp 22) 1, none⟩,
  ⟨some 8, Go.Op.assign (Go.Operand.tmp 26), none⟩,
  ⟨some 9, Go.Op.assign (Go.Operand.tmp 27), none⟩]) (.seq (.reg []
  [⟨some 28, Go.Op.move (Go.Operand.tmp 8), none⟩,
  ⟨some 29, Go.Op.move (Go.Operand.tmp 9), none⟩,
  ⟨some 4, Go.Op.assign (Go.Operand.tmp 28), none⟩,
  ⟨some 5, Go.Op.assign (Go.Operand.tmp 29), none⟩]) (.ret))))
def mj43_0 : List Nat := [2, 3, 4, 5, 6, 7, 10, 11, 12, 13, 14, 15, 16, 17, 18, 19, 20, 21]
theorem ls43 : Tryd.f43.body.map (strip Tryd.prog impCodA) = some lc43 := by kernel_rfl
theorem lcall43 {args : List AV} (hargs : args.length ≤ 30) {H0 : AHeap} (lo : Nat) (hlo : H0.length ≤ lo) {r0 : AV} {H0' : AHeap}
    (h : lavc Tryd.prog glob lc43 (args ++ List.replicate (30 - args.length) (.v undef)) H0 fun e t H => (e = .normal ∨ e = .ret) ∧ aret Tryd.prog t H [Go.ResultVar.tmp 4, Go.ResultVar.tmp 5] fun r => Fin lo H r r0 H0') :
    ACall Tryd.prog glob (H0.length == 0) 43 args H0 r0 H0' := LCall' ctx Tryd.func43 (by kernel_rfl) ls43 (by kernel_rfl) (by kernel_rfl) hargs lo hlo h
theorem lcallk43 {args : List AV} (hargs : args.length ≤ 30) {H0 : AHeap} {r0 : AV} {H0' : AHeap}
    (h : lavc Tryd.prog glob lc43 (args ++ List.replicate (30 - args.length) (.v undef)) H0 fun e t H => (e = .normal ∨ e = .ret) ∧ aret Tryd.prog t H [Go.ResultVar.tmp 4, Go.ResultVar.tmp 5] fun r => r = r0 ∧ H = H0') :
    ACall Tryd.prog glob false 43 args H0 r0 H0' := LCallK' ctx Tryd.func43 (by kernel_rfl) ls43 (by kernel_rfl) (by kernel_rfl) hargs h
/-- strings.HasPrefix -/
def lc44 : LCode := .seq (.reg []
  [⟨some 4, Go.Op.assign (Go.Operand.const (Go.Value.bool false)), none⟩]) (.seq (.reg []
  [⟨some 5, Go.Op.move (Go.Operand.tmp 0), none⟩,
  ⟨some 6, Go.Op.move (Go.Operand.tmp 1), none⟩,
  ⟨some 7, Go.Op.call { callee := Go.Callee.value (Go.Operand.func 55), args := #[Go.Operand.tmp 5, Go.Operand.tmp 6], argTypes := #[9, 9] }, none⟩,
  ⟨some 4, Go.Op.assign (Go.Operand.tmp 7), none⟩]) (.ret))
theorem ls44 : Tryd.f44.body.map (strip Tryd.prog impCodA) = some lc44 := by kernel_rfl
theorem lcall44 {args : List AV} (hargs : args.length ≤ 8) {H0 : AHeap} (lo : Nat) (hlo : H0.length ≤ lo) {r0 : AV} {H0' : AHeap}
    (h : lavc Tryd.prog glob lc44 (args ++ List.replicate (8 - args.length) (.v undef)) H0 fun e t H => (e = .normal ∨ e = .ret) ∧ aret Tryd.prog t H [Go.ResultVar.tmp 4] fun r => Fin lo H r r0 H0') :
    ACall Tryd.prog glob (H0.length == 0) 44 args H0 r0 H0' := LCall' ctx Tryd.func44 (by kernel_rfl) ls44 (by kernel_rfl) (by kernel_rfl) hargs lo hlo h
theorem lcallk44 {args : List AV} (hargs : args.length ≤ 8) {H0 : AHeap} {r0 : AV} {H0' : AHeap}
    (h : lavc Tryd.prog glob lc44 (args ++ List.replicate (8 - args.length) (.v undef)) H0 fun e t H => (e = .normal ∨ e = .ret) ∧ aret Tryd.prog t H [Go.ResultVar.tmp 4] fun r => r = r0 ∧ H = H0') :
    ACall Tryd.prog glob false 44 args H0 r0 H0' := LCallK' ctx Tryd.func44 (by kernel_rfl) ls44 (by kernel_rfl) (by kernel_rfl) hargs h
/-- internal/strconv.FormatInt -/
def lc52 : LCode := .seq (.reg []
  [⟨some 4, Go.Op.assign (Go.Operand.const (Go.Value.string { data := #[] })), none⟩]) (.seq (.seq (.reg []
  [⟨some 10, Go.Op.move (Go.Operand.tmp 1), none⟩,
  ⟨some 11, Go.Op.binOp Go.BinOp.eql 3 (Go.Operand.tmp 10) (Go.Operand.const (Go.Value.int Go.IntKind.i64 10)) 3, none⟩]) (.cond (Go.Operand.tmp 11) (.seq (.seq (.reg []
  [⟨some 12, Go.Op.move (Go.Operand.tmp 0), none⟩,
  ⟨some 13, Go.Op.binOp Go.BinOp.leq 2 (Go.Operand.const (Go.Value.int Go.IntKind.i64 0)) (Go.Operand.tmp 12) 2, none⟩,
  ⟨some 14, Go.Op.move (Go.Operand.tmp 13), none⟩,
  ⟨some 15, Go.Op.move (Go.Operand.tmp 0), (some (14, true))⟩,
  ⟨some 16, Go.Op.binOp Go.BinOp.lss 2 (Go.Operand.tmp 15) (Go.Operand.const (Go.Value.int Go.IntKind.i64 100)) 2, (some (14, true))⟩,
  ⟨some 17, Go.Op.pick (Go.Operand.tmp 14) (Go.Operand.tmp 16) (Go.Operand.const (Go.Value.bool false)), none⟩]) (.cond (Go.Operand.tmp 17) (.seq (.reg []
  [⟨some 18, Go.Op.move (Go.Operand.tmp 0), none⟩,
  ⟨some 19, Go.Op.call { callee := Go.Callee.value (Go.Operand.func 60), args := #[Go.Operand.tmp 18], argTypes := #[3] }, none⟩,
  ⟨some 4, Go.Op.assign (Go.Operand.tmp 19), none⟩]) (.ret)) (.skip))) (.seq (.reg []
  [⟨some 5, Go.Op.alloc 87, none⟩]) (.seq (.reg []
  [⟨some 20, Go.Op.move (Go.Operand.tmp 0), none⟩,
  ⟨some 21, Go.Op.convert 2 78 (Go.Operand.tmp 20), none⟩,
  ⟨some 6, Go.Op.assign (Go.Operand.tmp 21), none⟩]) (.seq (.seq (.reg []
  [⟨some 22, Go.Op.move (Go.Operand.tmp 0), none⟩,
  ⟨some 23, Go.Op.binOp Go.BinOp.lss 2 (Go.Operand.tmp 22) (Go.Operand.const (Go.Value.int Go.IntKind.i64 0)) 2, none⟩]) (.cond (Go.Operand.tmp 23) (.reg []
  [⟨some 24, Go.Op.move (Go.Operand.tmp 6), none⟩,
  ⟨some 25, Go.Op.unOp Go.UnOp.neg 78 (Go.Operand.tmp 24), none⟩,
  ⟨some 6, Go.Op.assign (Go.Operand.tmp 25), none⟩]) (.skip))) (.seq (.reg []
  [⟨some 26, Go.Op.move (Go.Operand.tmp 6), none⟩,
  ⟨some 27, Go.Op.call { callee := Go.Callee.value (Go.Operand.func 61), args := #[Go.Operand.tmp 26], argTypes := #[78] }, none⟩,
  ⟨some 7, Go.Op.assign (Go.Operand.tmp 27), none⟩]) (.seq (.reg []
  [⟨some 28, Go.Op.move (Go.Operand.tmp 7), none⟩,
  ⟨some 29, Go.Op.binOp Go.BinOp.add 3 (Go.Operand.const (Go.Value.int Go.IntKind.i64 1)) (Go.Operand.tmp 28) 3, none⟩,
  ⟨some 30, Go.Op.slice 87 (Go.Operand.tmp 5) (some (Go.Operand.const (Go.Value.int Go.IntKind.i64 1))) (some (Go.Operand.tmp 29)) none, none⟩,
  ⟨some 31, Go.Op.move (Go.Operand.tmp 6), none⟩,
  ⟨some 32, Go.Op.call { callee := Go.Callee.value (Go.Operand.func 62), args := #[Go.Operand.tmp 30, Go.Operand.tmp 31], argTypes := #[36, 78] }, none⟩]) (.seq (.seq (.reg []
  [⟨some 33, Go.Op.move (Go.Operand.tmp 0), none⟩,
  ⟨some 34, Go.Op.binOp Go.BinOp.lss 2 (Go.Operand.tmp 33) (Go.Operand.const (Go.Value.int Go.IntKind.i64 0)) 2, none⟩]) (.cond (Go.Operand.tmp 34) (.seq (.reg []
  [⟨some 35, Go.Op.indexAddr 87 (Go.Operand.tmp 5) (Go.Operand.const (Go.Value.int Go.IntKind.i64 0)), none⟩,
  ⟨none, Go.Op.store 5 (Go.Operand.tmp 35) (Go.Operand.const (Go.Value.int Go.IntKind.u8 45)), none⟩]) (.seq (.reg []
  [⟨some 36, Go.Op.move (Go.Operand.tmp 7), none⟩,
  ⟨some 37, Go.Op.binOp Go.BinOp.add 3 (Go.Operand.const (Go.Value.int Go.IntKind.i64 1)) (Go.Operand.tmp 36) 3, none⟩,
  ⟨some 38, Go.Op.slice 87 (Go.Operand.tmp 5) none (some (Go.Operand.tmp 37)) none, none⟩,
  ⟨some 39, Go.Op.convert 36 9 (Go.Operand.tmp 38), none⟩,
  ⟨some 4, Go.Op.assign (Go.Operand.tmp 39), none⟩]) (.ret))) (.skip))) (.seq (.reg []
  [⟨some 40, Go.Op.move (Go.Operand.tmp 7), none⟩,
  ⟨some 41, Go.Op.binOp Go.BinOp.add 3 (Go.Operand.const (Go.Value.int Go.IntKind.i64 1)) (Go.Operand.tmp 40) 3, none⟩,
  ⟨some 42, Go.Op.slice 87 (Go.Operand.tmp 5) (some (Go.Operand.const (Go.Value.int Go.IntKind.i64 1))) (some (Go.Operand.tmp 41)) none, none⟩,
  ⟨some 43, Go.Op.convert 36 9 (Go.Operand.tmp 42), none⟩,
  ⟨some 4, Go.Op.assign (Go.Operand.tmp 43), none⟩]) (.ret))))))))) (.skip))) (.seq (.reg []
  [⟨some 45, Go.Op.move (Go.Operand.tmp 0), none⟩,
  ⟨some 46, Go.Op.convert 2 78 (Go.Operand.tmp 45), none⟩,
  ⟨some 47, Go.Op.move (Go.Operand.tmp 1), none⟩,
  ⟨some 48, Go.Op.move (Go.Operand.tmp 0), none⟩,
  ⟨some 49, Go.Op.binOp Go.BinOp.lss 2 (Go.Operand.tmp 48) (Go.Operand.const (Go.Value.int Go.IntKind.i64 0)) 2, none⟩,
  ⟨some 50, Go.Op.call { callee := Go.Callee.value (Go.Operand.func 63), args := #[Go.Operand.const (Go.Value.slice none 0 0), Go.Operand.tmp 46, Go.Operand.tmp 47, Go.Operand.tmp 49, Go.Operand.const (Go.Value.bool false)], argTypes := #[36, 78, 3, 4, 4] }, none⟩,
  ⟨some 44, Go.Op.move (Go.Operand.tmp 50), none⟩,
  ⟨some 51, Go.Op.extract (Go.Operand.tmp 44) 0, none⟩,
  ⟨some 52, Go.Op.extract (Go.Operand.tmp 44) 1, none⟩,
  ⟨some 8, Go.Op.assign (Go.Operand.tmp 51), none⟩,
  ⟨some 9, Go.Op.assign (Go.Operand.tmp 52), none⟩]) (.seq (.reg []
  [⟨some 53, Go.Op.move (Go.Operand.tmp 9), none⟩,
  ⟨some 4, Go.Op.assign (Go.Operand.tmp 53), none⟩]) (.ret))))
def mj52_0 : List Nat := [2, 3, 4, 5, 6, 7, 8, 10, 11, 12, 13, 14, 15, 16, 17, 18, 19, 20, 21, 22, 23, 24, 25, 26, 27, 28, 29, 30, 31, 32, 33, 34, 35, 36, 37, 38, 39, 40, 41, 42, 43]
def mj52_1 : List Nat := [2, 3, 4, 8, 10, 11, 12, 13, 14, 15, 16, 17, 18, 19, 32]
def mj52_2 : List Nat := [2, 3, 6, 8, 10, 11, 12, 13, 14, 15, 16, 17, 18, 19, 20, 21, 22, 23, 24, 25, 32]
def mj52_3 : List Nat := [2, 3, 4, 6, 8, 10, 11, 12, 13, 14, 15, 16, 17, 18, 19, 20, 21, 22, 23, 24, 25, 26, 27, 28, 29, 30, 31, 32, 33, 34, 35, 36, 37, 38, 39]
theorem ls52 : Tryd.f52.body.map (strip Tryd.prog impCodA) = some lc52 := by kernel_rfl
theorem lcall52 {args : List AV} (hargs : args.length ≤ 54) {H0 : AHeap} (lo : Nat) (hlo : H0.length ≤ lo) {r0 : AV} {H0' : AHeap}
    (h : lavc Tryd.prog glob lc52 (args ++ List.replicate (54 - args.length) (.v undef)) H0 fun e t H => (e = .normal ∨ e = .ret) ∧ aret Tryd.prog t H [Go.ResultVar.tmp 4] fun r => Fin lo H r r0 H0') :
    ACall Tryd.prog glob (H0.length == 0) 52 args H0 r0 H0' := LCall' ctx Tryd.func52 (by kernel_rfl) ls52 (by kernel_rfl) (by kernel_rfl) hargs lo hlo h
theorem lcallk52 {args : List AV} (hargs : args.length ≤ 54) {H0 : AHeap} {r0 : AV} {H0' : AHeap}
    (h : lavc Tryd.prog glob lc52 (args ++ List.replicate (54 - args.length) (.v undef)) H0 fun e t H => (e = .normal ∨ e = .ret) ∧ aret Tryd.prog t H [Go.ResultVar.tmp 4] fun r => r = r0 ∧ H = H0') :
    ACall Tryd.prog glob false 52 args H0 r0 H0' := LCallK' ctx Tryd.func52 (by kernel_rfl) ls52 (by kernel_rfl) (by kernel_rfl) hargs h
/-- math/bits.Mul64 -/
def lc54 : LCode := .seq (.reg []
  [⟨some 4, Go.Op.assign (Go.Operand.const (Go.Value.int Go.IntKind.u64 0)), none⟩,
  ⟨some 5, Go.Op.assign (Go.Operand.const (Go.Value.int Go.IntKind.u64 0)), none⟩]) (.seq (.reg []
  [⟨some 14, Go.Op.move (Go.Operand.tmp 0), none⟩,
  ⟨some 15, Go.Op.binOp Go.BinOp.and 78 (Go.Operand.tmp 14) (Go.Operand.const (Go.Value.int Go.IntKind.u64 4294967295)) 78, none⟩,
  ⟨some 6, Go.Op.assign (Go.Operand.tmp 15), none⟩]) (.seq (.reg []
  [⟨some 16, Go.Op.move (Go.Operand.tmp 0), none⟩,
  ⟨some 17, Go.Op.binOp Go.BinOp.shr 78 (Go.Operand.tmp 16) (Go.Operand.const (Go.Value.int Go.IntKind.u64 32)) 64, none⟩,
  ⟨some 7, Go.Op.assign (Go.Operand.tmp 17), none⟩]) (.seq (.reg []
  [⟨some 18, Go.Op.move (Go.Operand.tmp 1), none⟩,
  ⟨some 19, Go.Op.binOp Go.BinOp.and 78 (Go.Operand.tmp 18) (Go.Operand.const (Go.Value.int Go.IntKind.u64 4294967295)) 78, none⟩,
  ⟨some 8, Go.Op.assign (Go.Operand.tmp 19), none⟩]) (.seq (.reg []
  [⟨some 20, Go.Op.move (Go.Operand.tmp 1), none⟩,
  ⟨some 21, Go.Op.binOp Go.BinOp.shr 78 (Go.Operand.tmp 20) (Go.Operand.const (Go.Value.int Go.IntKind.u64 32)) 64, none⟩,
  ⟨some 9, Go.Op.assign (Go.Operand.tmp 21), none⟩]) (.seq (.reg []
  [⟨some 22, Go.Op.move (Go.Operand.tmp 6), none⟩,
  ⟨some 23, Go.Op.move (Go.Operand.tmp 8), none⟩,
  ⟨some 24, Go.Op.binOp Go.BinOp.mul 78 (Go.Operand.tmp 22) (Go.Operand.tmp 23) 78, none⟩,
  ⟨some 10, Go.Op.assign (Go.Operand.tmp 24), none⟩]) (.seq (.reg []
  [⟨some 25, Go.Op.move (Go.Operand.tmp 7), none⟩,
  ⟨some 26, Go.Op.move (Go.Operand.tmp 8), none⟩,
  ⟨some 27, Go.Op.binOp Go.BinOp.mul 78 (Go.Operand.tmp 25) (Go.Operand.tmp 26) 78, none⟩,
  ⟨some 28, Go.Op.move (Go.Operand.tmp 10), none⟩,
  ⟨some 29, Go.Op.binOp Go.BinOp.shr 78 (Go.Operand.tmp 28) (Go.Operand.const (Go.Value.int Go.IntKind.u64 32)) 64, none⟩,
  ⟨some 30, Go.Op.binOp Go.BinOp.add 78 (Go.Operand.tmp 27) (Go.Operand.tmp 29) 78, none⟩,
  ⟨some 11, Go.Op.assign (Go.Operand.tmp 30), none⟩]) (.seq (.reg []
  [⟨some 31, Go.Op.move (Go.Operand.tmp 11), none⟩,
  ⟨some 32, Go.Op.binOp Go.BinOp.and 78 (Go.Operand.tmp 31) (Go.Operand.const (Go.Value.int Go.IntKind.u64 4294967295)) 78, none⟩,
  ⟨some 12, Go.Op.assign (Go.Operand.tmp 32), none⟩]) (.seq (.reg []
  [⟨some 33, Go.Op.move (Go.Operand.tmp 11), none⟩,
  ⟨some 34, Go.Op.binOp Go.BinOp.shr 78 (Go.Operand.tmp 33) (Go.Operand.const (Go.Value.int Go.IntKind.u64 32)) 64, none⟩,
  ⟨some 13, Go.Op.assign (Go.Operand.tmp 34), none⟩]) (.seq (.reg []
  [⟨some 35, Go.Op.move (Go.Operand.tmp 12), none⟩,
  ⟨some 36, Go.Op.move (Go.Operand.tmp 6), none⟩,
  ⟨some 37, Go.Op.move (Go.Operand.tmp 9), none⟩,
  ⟨some 38, Go.Op.binOp Go.BinOp.mul 78 (Go.Operand.tmp 36) (Go.Operand.tmp 37) 78, none⟩,
  ⟨some 39, Go.Op.binOp Go.BinOp.add 78 (Go.Operand.tmp 35) (Go.Operand.tmp 38) 78, none⟩,
  ⟨some 12, Go.Op.assign (Go.Operand.tmp 39), none⟩]) (.seq (.reg []
  [⟨some 40, Go.Op.move (Go.Operand.tmp 7), none⟩,
  ⟨some 41, Go.Op.move (Go.Operand.tmp 9), none⟩,
  ⟨some 42, Go.Op.binOp Go.BinOp.mul 78 (Go.Operand.tmp 40) (Go.Operand.tmp 41) 78, none⟩,
  ⟨some 43, Go.Op.move (Go.Operand.tmp 13), none⟩,
  ⟨some 44, Go.Op.binOp Go.BinOp.add 78 (Go.Operand.tmp 42) (Go.Operand.tmp 43) 78, none⟩,
  ⟨some 45, Go.Op.move (Go.Operand.tmp 12), none⟩,
  ⟨some 46, Go.Op.binOp Go.BinOp.shr 78 (Go.Operand.tmp 45) (Go.Operand.const (Go.Value.int Go.IntKind.u64 32)) 64, none⟩,
  ⟨some 47, Go.Op.binOp Go.BinOp.add 78 (Go.Operand.tmp 44) (Go.Operand.tmp 46) 78, none⟩,
  ⟨some 4, Go.Op.assign (Go.Operand.tmp 47), none⟩]) (.seq (.reg []
  [⟨some 48, Go.Op.move (Go.Operand.tmp 0), none⟩,
  ⟨some 49, Go.Op.move (Go.Operand.tmp 1), none⟩,
  ⟨some 50, Go.Op.binOp Go.BinOp.mul 78 (Go.Operand.tmp 48) (Go.Operand.tmp 49) 78, none⟩,
  ⟨some 5, Go.Op.assign (Go.Operand.tmp 50), none⟩]) (.ret))))))))))))
theorem ls54 : Tryd.f54.body.map (strip Tryd.prog impCodA) = some lc54 := by kernel_rfl
theorem lcall54 {args : List AV} (hargs : args.length ≤ 51) {H0 : AHeap} (lo : Nat) (hlo : H0.length ≤ lo) {r0 : AV} {H0' : AHeap}
    (h : lavc Tryd.prog glob lc54 (args ++ List.replicate (51 - args.length) (.v undef)) H0 fun e t H => (e = .normal ∨ e = .ret) ∧ aret Tryd.prog t H [Go.ResultVar.tmp 4, Go.ResultVar.tmp 5] fun r => Fin lo H r r0 H0') :
    ACall Tryd.prog glob (H0.length == 0) 54 args H0 r0 H0' := LCall' ctx Tryd.func54 (by kernel_rfl) ls54 (by kernel_rfl) (by kernel_rfl) hargs lo hlo h
theorem lcallk54 {args : List AV} (hargs : args.length ≤ 51) {H0 : AHeap} {r0 : AV} {H0' : AHeap}
    (h : lavc Tryd.prog glob lc54 (args ++ List.replicate (51 - args.length) (.v undef)) H0 fun e t H => (e = .normal ∨ e = .ret) ∧ aret Tryd.prog t H [Go.ResultVar.tmp 4, Go.ResultVar.tmp 5] fun r => r = r0 ∧ H = H0') :
    ACall Tryd.prog glob false 54 args H0 r0 H0' := LCallK' ctx Tryd.func54 (by kernel_rfl) ls54 (by kernel_rfl) (by kernel_rfl) hargs h
/-- internal/stringslite.HasPrefix -/
def lc55 : LCode := .seq (.reg []
  [⟨some 4, Go.Op.assign (Go.Operand.const (Go.Value.bool false)), none⟩]) (.seq (.reg []
  [⟨some 5, Go.Op.move (Go.Operand.tmp 0), none⟩,
  ⟨some 6, Go.Op.call { callee := Go.Callee.builtin Go.Builtin.len, args := #[Go.Operand.tmp 5], argTypes := #[9] }, none⟩,
  ⟨some 7, Go.Op.move (Go.Operand.tmp 1), none⟩,
  ⟨some 8, Go.Op.call { callee := Go.Callee.builtin Go.Builtin.len, args := #[Go.Operand.tmp 7], argTypes := #[9] }, none⟩,
  ⟨some 9, Go.Op.binOp Go.BinOp.geq 3 (Go.Operand.tmp 6) (Go.Operand.tmp 8) 3, none⟩,
  ⟨some 10, Go.Op.move (Go.Operand.tmp 9), none⟩,
  ⟨some 11, Go.Op.move (Go.Operand.tmp 0), (some (10, true))⟩,
  ⟨some 12, Go.Op.move (Go.Operand.tmp 1), (some (10, true))⟩,
  ⟨some 13, Go.Op.call { callee := Go.Callee.builtin Go.Builtin.len, args := #[Go.Operand.tmp 12], argTypes := #[9] }, (some (10, true))⟩,
  ⟨some 14, Go.Op.slice 9 (Go.Operand.tmp 11) none (some (Go.Operand.tmp 13)) none, (some (10, true))⟩,
  ⟨some 15, Go.Op.move (Go.Operand.tmp 1), (some (10, true))⟩,
  ⟨some 16, Go.Op.binOp Go.BinOp.eql 9 (Go.Operand.tmp 14) (Go.Operand.tmp 15) 9, (some (10, true))⟩,
  ⟨some 17, Go.Op.pick (Go.Operand.tmp 10) (Go.Operand.tmp 16) (Go.Operand.const (Go.Value.bool false)), none⟩,
  ⟨some 4, Go.Op.assign (Go.Operand.tmp 17), none⟩]) (.ret))
theorem ls55 : Tryd.f55.body.map (strip Tryd.prog impCodA) = some lc55 := by kernel_rfl
theorem lcall55 {args : List AV} (hargs : args.length ≤ 18) {H0 : AHeap} (lo : Nat) (hlo : H0.length ≤ lo) {r0 : AV} {H0' : AHeap}
    (h : lavc Tryd.prog glob lc55 (args ++ List.replicate (18 - args.length) (.v undef)) H0 fun e t H => (e = .normal ∨ e = .ret) ∧ aret Tryd.prog t H [Go.ResultVar.tmp 4] fun r => Fin lo H r r0 H0') :
    ACall Tryd.prog glob (H0.length == 0) 55 args H0 r0 H0' := LCall' ctx Tryd.func55 (by kernel_rfl) ls55 (by kernel_rfl) (by kernel_rfl) hargs lo hlo h
theorem lcallk55 {args : List AV} (hargs : args.length ≤ 18) {H0 : AHeap} {r0 : AV} {H0' : AHeap}
    (h : lavc Tryd.prog glob lc55 (args ++ List.replicate (18 - args.length) (.v undef)) H0 fun e t H => (e = .normal ∨ e = .ret) ∧ aret Tryd.prog t H [Go.ResultVar.tmp 4] fun r => r = r0 ∧ H = H0') :
    ACall Tryd.prog glob false 55 args H0 r0 H0' := LCallK' ctx Tryd.func55 (by kernel_rfl) ls55 (by kernel_rfl) (by kernel_rfl) hargs h
/-- internal/strconv.small -/
def lc60 : LCode := .seq (.reg []
  [⟨some 2, Go.Op.assign (Go.Operand.const (Go.Value.string { data := #[] })), none⟩]) (.seq (.seq (.reg []
  [⟨some 3, Go.Op.move (Go.Operand.tmp 0), none⟩,
  ⟨some 4, Go.Op.binOp Go.BinOp.lss 3 (Go.Operand.tmp 3) (Go.Operand.const (Go.Value.int Go.IntKind.i64 10)) 3, none⟩]) (.cond (Go.Operand.tmp 4) (.seq (.reg []
  [⟨some 5, Go.Op.move (Go.Operand.tmp 0), none⟩,
  ⟨some 6, Go.Op.move (Go.Operand.tmp 0), none⟩,
  ⟨some 7, Go.Op.binOp Go.BinOp.add 3 (Go.Operand.tmp 6) (Go.Operand.const (Go.Value.int Go.IntKind.i64 1)) 3, none⟩,
  ⟨some 8, Go.Op.slice 9 (Go.Operand.const (Go.Value.string { data := #[48, 49, 50, 51, 52, 53, 54, 55, 56, 57, 97, 98, 99, 100, 101, 102, 103, 104, 105, 106, 107, 108, 109, 110, 111, 112, 113, 114, 115, 116, 117, 118, 119, 120, 121, 122] })) (some (Go.Operand.tmp 5)) (some (Go.Operand.tmp 7)) none, none⟩,
  ⟨some 2, Go.Op.assign (Go.Operand.tmp 8), none⟩]) (.ret)) (.skip))) (.seq (.reg []
  [⟨some 9, Go.Op.move (Go.Operand.tmp 0), none⟩,
  ⟨some 10, Go.Op.binOp Go.BinOp.mul 3 (Go.Operand.tmp 9) (Go.Operand.const (Go.Value.int Go.IntKind.i64 2)) 3, none⟩,
  ⟨some 11, Go.Op.move (Go.Operand.tmp 0), none⟩,
  ⟨some 12, Go.Op.binOp Go.BinOp.mul 3 (Go.Operand.tmp 11) (Go.Operand.const (Go.Value.int Go.IntKind.i64 2)) 3, none⟩,
  ⟨some 13, Go.Op.binOp Go.BinOp.add 3 (Go.Operand.tmp 12) (Go.Operand.const (Go.Value.int Go.IntKind.i64 2)) 3, none⟩,
  ⟨some 14, Go.Op.slice 9 (Go.Operand.const (Go.Value.string { data := #[48, 48, 48, 49, 48, 50, 48, 51, 48, 52, 48, 53, 48, 54, 48, 55, 48, 56, 48, 57, 49, 48, 49, 49, 49, 50, 49, 51, 49, 52, 49, 53, 49, 54, 49, 55, 49, 56, 49, 57, 50, 48, 50, 49, 50, 50, 50, 51, 50, 52, 50, 53, 50, 54, 50, 55, 50, 56, 50, 57, 51, 48, 51, 49, 51, 50, 51, 51, 51, 52, 51, 53, 51, 54, 51, 55, 51, 56, 51, 57, 52, 48, 52, 49, 52, 50, 52, 51, 52, 52, 52, 53, 52, 54, 52, 55, 52, 56, 52, 57, 53, 48, 53, 49, 53, 50, 53, 51, 53, 52, 53, 53, 53, 54, 53, 55, 53, 56, 53, 57, 54, 48, 54, 49, 54, 50, 54, 51, 54, 52, 54, 53, 54, 54, 54, 55, 54, 56, 54, 57, 55, 48, 55, 49, 55, 50, 55, 51, 55, 52, 55, 53, 55, 54, 55, 55, 55, 56, 55, 57, 56, 48, 56, 49, 56, 50, 56, 51, 56, 52, 56, 53, 56, 54, 56, 55, 56, 56, 56, 57, 57, 48, 57, 49, 57, 50, 57, 51, 57, 52, 57, 53, 57, 54, 57, 55, 57, 56, 57, 57] })) (some (Go.Operand.tmp 10)) (some (Go.Operand.tmp 13)) none, none⟩,
  ⟨some 2, Go.Op.assign (Go.Operand.tmp 14), none⟩]) (.ret)))
def mj60_0 : List Nat := [1, 2, 3, 4, 5, 6, 7, 8]
theorem ls60 : Tryd.f60.body.map (strip Tryd.prog impCodA) = some lc60 := by kernel_rfl
theorem lcall60 {args : List AV} (hargs : args.length ≤ 15) {H0 : AHeap} (lo : Nat) (hlo : H0.length ≤ lo) {r0 : AV} {H0' : AHeap}
    (h : lavc Tryd.prog glob lc60 (args ++ List.replicate (15 - args.length) (.v undef)) H0 fun e t H => (e = .normal ∨ e = .ret) ∧ aret Tryd.prog t H [Go.ResultVar.tmp 2] fun r => Fin lo H r r0 H0') :
    ACall Tryd.prog glob (H0.length == 0) 60 args H0 r0 H0' := LCall' ctx Tryd.func60 (by kernel_rfl) ls60 (by kernel_rfl) (by kernel_rfl) hargs lo hlo h
theorem lcallk60 {args : List AV} (hargs : args.length ≤ 15) {H0 : AHeap} {r0 : AV} {H0' : AHeap}
    (h : lavc Tryd.prog glob lc60 (args ++ List.replicate (15 - args.length) (.v undef)) H0 fun e t H => (e = .normal ∨ e = .ret) ∧ aret Tryd.prog t H [Go.ResultVar.tmp 2] fun r => r = r0 ∧ H = H0') :
    ACall Tryd.prog glob false 60 args H0 r0 H0' := LCallK' ctx Tryd.func60 (by kernel_rfl) ls60 (by kernel_rfl) (by kernel_rfl) hargs h
/-- internal/strconv.numDigits -/
def lc61 : LCode := .seq (.reg []
  [⟨some 2, Go.Op.assign (Go.Operand.const (Go.Value.int Go.IntKind.i64 0)), none⟩]) (.seq (.reg []
  [⟨some 4, Go.Op.move (Go.Operand.tmp 0), none⟩,
  ⟨some 5, Go.Op.call { callee := Go.Callee.value (Go.Operand.func 68), args := #[Go.Operand.tmp 4], argTypes := #[78] }, none⟩,
  ⟨some 6, Go.Op.call { callee := Go.Callee.value (Go.Operand.func 67), args := #[Go.Operand.tmp 5], argTypes := #[3] }, none⟩,
  ⟨some 3, Go.Op.assign (Go.Operand.tmp 6), none⟩]) (.seq (.reg []
  [⟨some 7, Go.Op.move (Go.Operand.tmp 3), none⟩,
  ⟨some 8, Go.Op.move (Go.Operand.tmp 0), none⟩,
  ⟨some 9, Go.Op.move (Go.Operand.tmp 3), none⟩,
  ⟨some 10, Go.Op.indexAddr 98 (Go.Operand.global 3) (Go.Operand.tmp 9), none⟩,
  ⟨some 11, Go.Op.load 78 (Go.Operand.tmp 10), none⟩,
  ⟨some 12, Go.Op.binOp Go.BinOp.geq 78 (Go.Operand.tmp 8) (Go.Operand.tmp 11) 78, none⟩,
  ⟨some 13, Go.Op.call { callee := Go.Callee.value (Go.Operand.func 69), args := #[Go.Operand.tmp 12], argTypes := #[4] }, none⟩,
  ⟨some 14, Go.Op.binOp Go.BinOp.add 3 (Go.Operand.tmp 7) (Go.Operand.tmp 13) 3, none⟩,
  ⟨some 2, Go.Op.assign (Go.Operand.tmp 14), none⟩]) (.ret)))
theorem ls61 : Tryd.f61.body.map (strip Tryd.prog impCodA) = some lc61 := by kernel_rfl
theorem lcall61 {args : List AV} (hargs : args.length ≤ 15) {H0 : AHeap} (lo : Nat) (hlo : H0.length ≤ lo) {r0 : AV} {H0' : AHeap}
    (h : lavc Tryd.prog glob lc61 (args ++ List.replicate (15 - args.length) (.v undef)) H0 fun e t H => (e = .normal ∨ e = .ret) ∧ aret Tryd.prog t H [Go.ResultVar.tmp 2] fun r => Fin lo H r r0 H0') :
    ACall Tryd.prog glob (H0.length == 0) 61 args H0 r0 H0' := LCall' ctx Tryd.func61 (by kernel_rfl) ls61 (by kernel_rfl) (by kernel_rfl) hargs lo hlo h
theorem lcallk61 {args : List AV} (hargs : args.length ≤ 15) {H0 : AHeap} {r0 : AV} {H0' : AHeap}
    (h : lavc Tryd.prog glob lc61 (args ++ List.replicate (15 - args.length) (.v undef)) H0 fun e t H => (e = .normal ∨ e = .ret) ∧ aret Tryd.prog t H [Go.ResultVar.tmp 2] fun r => r = r0 ∧ H = H0') :
    ACall Tryd.prog glob false 61 args H0 r0 H0' := LCallK' ctx Tryd.func61 (by kernel_rfl) ls61 (by kernel_rfl) (by kernel_rfl) hargs h
/-- internal/strconv.log10Pow2 -/
def lc67 : LCode := .seq (.reg []
  [⟨some 2, Go.Op.assign (Go.Operand.const (Go.Value.int Go.IntKind.i64 0)), none⟩]) (.seq (.reg []
  [⟨some 3, Go.Op.move (Go.Operand.tmp 0), none⟩,
  ⟨some 4, Go.Op.binOp Go.BinOp.mul 3 (Go.Operand.tmp 3) (Go.Operand.const (Go.Value.int Go.IntKind.i64 78913)) 3, none⟩,
  ⟨some 5, Go.Op.binOp Go.BinOp.shr 3 (Go.Operand.tmp 4) (Go.Operand.const (Go.Value.int Go.IntKind.u64 18)) 64, none⟩,
  ⟨some 2, Go.Op.assign (Go.Operand.tmp 5), none⟩]) (.ret))
theorem ls67 : Tryd.f67.body.map (strip Tryd.prog impCodA) = some lc67 := by kernel_rfl
theorem lcall67 {args : List AV} (hargs : args.length ≤ 6) {H0 : AHeap} (lo : Nat) (hlo : H0.length ≤ lo) {r0 : AV} {H0' : AHeap}
    (h : lavc Tryd.prog glob lc67 (args ++ List.replicate (6 - args.length) (.v undef)) H0 fun e t H => (e = .normal ∨ e = .ret) ∧ aret Tryd.prog t H [Go.ResultVar.tmp 2] fun r => Fin lo H r r0 H0') :
    ACall Tryd.prog glob (H0.length == 0) 67 args H0 r0 H0' := LCall' ctx Tryd.func67 (by kernel_rfl) ls67 (by kernel_rfl) (by kernel_rfl) hargs lo hlo h
theorem lcallk67 {args : List AV} (hargs : args.length ≤ 6) {H0 : AHeap} {r0 : AV} {H0' : AHeap}
    (h : lavc Tryd.prog glob lc67 (args ++ List.replicate (6 - args.length) (.v undef)) H0 fun e t H => (e = .normal ∨ e = .ret) ∧ aret Tryd.prog t H [Go.ResultVar.tmp 2] fun r => r = r0 ∧ H = H0') :
    ACall Tryd.prog glob false 67 args H0 r0 H0' := LCallK' ctx Tryd.func67 (by kernel_rfl) ls67 (by kernel_rfl) (by kernel_rfl) hargs h
/-- math/bits.Len64 -/
def lc68 : LCode := .seq (.reg []
  [⟨some 2, Go.Op.assign (Go.Operand.const (Go.Value.int Go.IntKind.i64 0)), none⟩]) (.seq (.seq (.reg []
  [⟨some 3, Go.Op.move (Go.Operand.tmp 0), none⟩,
  ⟨some 4, Go.Op.binOp Go.BinOp.geq 78 (Go.Operand.tmp 3) (Go.Operand.const (Go.Value.int Go.IntKind.u64 4294967296)) 78, none⟩]) (.cond (Go.Operand.tmp 4) (.seq (.reg []
  [⟨some 5, Go.Op.move (Go.Operand.tmp 0), none⟩,
  ⟨some 6, Go.Op.binOp Go.BinOp.shr 78 (Go.Operand.tmp 5) (Go.Operand.const (Go.Value.int Go.IntKind.u64 32)) 64, none⟩,
  ⟨some 0, Go.Op.assign (Go.Operand.tmp 6), none⟩]) (.reg []
  [⟨some 2, Go.Op.assign (Go.Operand.const (Go.Value.int Go.IntKind.i64 32)), none⟩])) (.skip))) (.seq (.seq (.reg []
  [⟨some 7, Go.Op.move (Go.Operand.tmp 0), none⟩,
  ⟨some 8, Go.Op.binOp Go.BinOp.geq 78 (Go.Operand.tmp 7) (Go.Operand.const (Go.Value.int Go.IntKind.u64 65536)) 78, none⟩]) (.cond (Go.Operand.tmp 8) (.seq (.reg []
  [⟨some 9, Go.Op.move (Go.Operand.tmp 0), none⟩,
  ⟨some 10, Go.Op.binOp Go.BinOp.shr 78 (Go.Operand.tmp 9) (Go.Operand.const (Go.Value.int Go.IntKind.u64 16)) 64, none⟩,
  ⟨some 0, Go.Op.assign (Go.Operand.tmp 10), none⟩]) (.reg []
  [⟨some 11, Go.Op.move (Go.Operand.tmp 2), none⟩,
  ⟨some 12, Go.Op.binOp Go.BinOp.add 3 (Go.Operand.tmp 11) (Go.Operand.const (Go.Value.int Go.IntKind.i64 16)) 3, none⟩,
  ⟨some 2, Go.Op.assign (Go.Operand.tmp 12), none⟩])) (.skip))) (.seq (.seq (.reg []
  [⟨some 13, Go.Op.move (Go.Operand.tmp 0), none⟩,
  ⟨some 14, Go.Op.binOp Go.BinOp.geq 78 (Go.Operand.tmp 13) (Go.Operand.const (Go.Value.int Go.IntKind.u64 256)) 78, none⟩]) (.cond (Go.Operand.tmp 14) (.seq (.reg []
  [⟨some 15, Go.Op.move (Go.Operand.tmp 0), none⟩,
  ⟨some 16, Go.Op.binOp Go.BinOp.shr 78 (Go.Operand.tmp 15) (Go.Operand.const (Go.Value.int Go.IntKind.u64 8)) 64, none⟩,
  ⟨some 0, Go.Op.assign (Go.Operand.tmp 16), none⟩]) (.reg []
  [⟨some 17, Go.Op.move (Go.Operand.tmp 2), none⟩,
  ⟨some 18, Go.Op.binOp Go.BinOp.add 3 (Go.Operand.tmp 17) (Go.Operand.const (Go.Value.int Go.IntKind.i64 8)) 3, none⟩,
  ⟨some 2, Go.Op.assign (Go.Operand.tmp 18), none⟩])) (.skip))) (.seq (.reg []
  [⟨some 19, Go.Op.move (Go.Operand.tmp 2), none⟩,
  ⟨some 20, Go.Op.move (Go.Operand.tmp 0), none⟩,
  ⟨some 21, Go.Op.convert 78 5 (Go.Operand.tmp 20), none⟩,
  ⟨some 22, Go.Op.index 9 (Go.Operand.const (Go.Value.string { data := #[0, 1, 2, 2, 3, 3, 3, 3, 4, 4, 4, 4, 4, 4, 4, 4, 5, 5, 5, 5, 5, 5, 5, 5, 5, 5, 5, 5, 5, 5, 5, 5, 6, 6, 6, 6, 6, 6, 6, 6, 6, 6, 6, 6, 6, 6, 6, 6, 6, 6, 6, 6, 6, 6, 6, 6, 6, 6, 6, 6, 6, 6, 6, 6, 7, 7, 7, 7, 7, 7, 7, 7, 7, 7, 7, 7, 7, 7, 7, 7, 7, 7, 7, 7, 7, 7, 7, 7, 7, 7, 7, 7, 7, 7, 7, 7, 7, 7, 7, 7, 7, 7, 7, 7, 7, 7, 7, 7, 7, 7, 7, 7, 7, 7, 7, 7, 7, 7, 7, 7, 7, 7, 7, 7, 7, 7, 7, 7, 8, 8, 8, 8, 8, 8, 8, 8, 8, 8, 8, 8, 8, 8, 8, 8, 8, 8, 8, 8, 8, 8, 8, 8, 8, 8, 8, 8, 8, 8, 8, 8, 8, 8, 8, 8, 8, 8, 8, 8, 8, 8, 8, 8, 8, 8, 8, 8, 8, 8, 8, 8, 8, 8, 8, 8, 8, 8, 8, 8, 8, 8, 8, 8, 8, 8, 8, 8, 8, 8, 8, 8, 8, 8, 8, 8, 8, 8, 8, 8, 8, 8, 8, 8, 8, 8, 8, 8, 8, 8, 8, 8, 8, 8, 8, 8, 8, 8, 8, 8, 8, 8, 8, 8, 8, 8, 8, 8, 8, 8, 8, 8, 8, 8, 8, 8, 8, 8, 8, 8, 8, 8, 8, 8, 8, 8, 8, 8] })) (Go.Operand.tmp 21), none⟩,
  ⟨some 23, Go.Op.convert 5 3 (Go.Operand.tmp 22), none⟩,
  ⟨some 24, Go.Op.binOp Go.BinOp.add 3 (Go.Operand.tmp 19) (Go.Operand.tmp 23) 3, none⟩,
  ⟨some 2, Go.Op.assign (Go.Operand.tmp 24), none⟩]) (.ret)))))
def mj68_0 : List Nat := [0, 1, 2, 3, 4, 5, 6]
def mj68_1 : List Nat := [0, 1, 2, 3, 4, 5, 6, 7, 8, 9, 10, 11, 12]
def mj68_2 : List Nat := [0, 1, 2, 3, 4, 5, 6, 7, 8, 9, 10, 11, 12, 13, 14, 15, 16, 17, 18]
theorem ls68 : Tryd.f68.body.map (strip Tryd.prog impCodA) = some lc68 := by kernel_rfl
theorem lcall68 {args : List AV} (hargs : args.length ≤ 25) {H0 : AHeap} (lo : Nat) (hlo : H0.length ≤ lo) {r0 : AV} {H0' : AHeap}
    (h : lavc Tryd.prog glob lc68 (args ++ List.replicate (25 - args.length) (.v undef)) H0 fun e t H => (e = .normal ∨ e = .ret) ∧ aret Tryd.prog t H [Go.ResultVar.tmp 2] fun r => Fin lo H r r0 H0') :
    ACall Tryd.prog glob (H0.length == 0) 68 args H0 r0 H0' := LCall' ctx Tryd.func68 (by kernel_rfl) ls68 (by kernel_rfl) (by kernel_rfl) hargs lo hlo h
theorem lcallk68 {args : List AV} (hargs : args.length ≤ 25) {H0 : AHeap} {r0 : AV} {H0' : AHeap}
    (h : lavc Tryd.prog glob lc68 (args ++ List.replicate (25 - args.length) (.v undef)) H0 fun e t H => (e = .normal ∨ e = .ret) ∧ aret Tryd.prog t H [Go.ResultVar.tmp 2] fun r => r = r0 ∧ H = H0') :
    ACall Tryd.prog glob false 68 args H0 r0 H0' := LCallK' ctx Tryd.func68 (by kernel_rfl) ls68 (by kernel_rfl) (by kernel_rfl) hargs h
/-- internal/strconv.bool2[int] -/
def lc69 : LCode := .seq (.reg []
  [⟨some 2, Go.Op.assign (Go.Operand.const (Go.Value.int Go.IntKind.i64 0)), none⟩]) (.seq (.seq (.reg []
  [⟨some 3, Go.Op.move (Go.Operand.tmp 0), none⟩]) (.cond (Go.Operand.tmp 3) (.seq (.reg []
  [⟨some 2, Go.Op.assign (Go.Operand.const (Go.Value.int Go.IntKind.i64 1)), none⟩]) (.ret)) (.skip))) (.seq (.reg []
  [⟨some 2, Go.Op.assign (Go.Operand.const (Go.Value.int Go.IntKind.i64 0)), none⟩]) (.ret)))
def mj69_0 : List Nat := [0, 1, 2, 3]
theorem ls69 : Tryd.f69.body.map (strip Tryd.prog impCodA) = some lc69 := by kernel_rfl
theorem lcall69 {args : List AV} (hargs : args.length ≤ 4) {H0 : AHeap} (lo : Nat) (hlo : H0.length ≤ lo) {r0 : AV} {H0' : AHeap}
    (h : lavc Tryd.prog glob lc69 (args ++ List.replicate (4 - args.length) (.v undef)) H0 fun e t H => (e = .normal ∨ e = .ret) ∧ aret Tryd.prog t H [Go.ResultVar.tmp 2] fun r => Fin lo H r r0 H0') :
    ACall Tryd.prog glob (H0.length == 0) 69 args H0 r0 H0' := LCall' ctx Tryd.func69 (by kernel_rfl) ls69 (by kernel_rfl) (by kernel_rfl) hargs lo hlo h
theorem lcallk69 {args : List AV} (hargs : args.length ≤ 4) {H0 : AHeap} {r0 : AV} {H0' : AHeap}
    (h : lavc Tryd.prog glob lc69 (args ++ List.replicate (4 - args.length) (.v undef)) H0 fun e t H => (e = .normal ∨ e = .ret) ∧ aret Tryd.prog t H [Go.ResultVar.tmp 2] fun r => r = r0 ∧ H = H0') :
    ACall Tryd.prog glob false 69 args H0 r0 H0' := LCallK' ctx Tryd.func69 (by kernel_rfl) ls69 (by kernel_rfl) (by kernel_rfl) hargs h
end Go.Abs.S
