/- Code, as it is looked at; written by wip/leancode.py. -/
import Derived.Test.YtgmchiadphdlhaaDoorAbsSeat
namespace Go.Abs.S
open Go.Proofs
set_option maxRecDepth 100000
def impCodC : FuncId → Bool := fun f => f == 20 || f == 22 || f == 35 || f == 51 || f == 67
/-- escutcheon/escutcheonlaw22.ClaimTimes -/
def lc4 : LCode := .seq (.reg []
  [⟨some 6, .assign (.const (.bool false)), none⟩]) (.seq (.seq (.reg []
  [⟨some 12, .call { callee := .value (.func 6), args := #[], argTypes := #[] }, none⟩,
  ⟨some 13, .unOp .not 4 (.tmp 12), none⟩,
  ⟨some 14, .move (.tmp 13), none⟩,
  ⟨some 15, .move (.tmp 2), (some (14, false))⟩,
  ⟨some 16, .call { callee := .builtin .len, args := #[.tmp 15], argTypes := #[9] }, (some (14, false))⟩,
  ⟨some 17, .binOp .gtr 3 (.tmp 16) (.const (.int .i64 60)) 3, (some (14, false))⟩,
  ⟨some 18, .pick (.tmp 14) (.const (.bool true)) (.tmp 17), none⟩]) (.cond (.tmp 18) (.seq (.reg []
  [⟨some 19, .call { callee := .value (.func 6), args := #[], argTypes := #[] }, none⟩,
  ⟨some 6, .assign (.tmp 19), none⟩]) (.ret)) (.skip))) (.seq (.reg []
  [⟨some 21, .move (.tmp 0), none⟩,
  ⟨some 22, .call { callee := .value (.func 9), args := #[.tmp 21], argTypes := #[3] }, none⟩,
  ⟨some 20, .move (.tmp 22), none⟩,
  ⟨some 23, .extract (.tmp 20) 0, none⟩,
  ⟨some 24, .extract (.tmp 20) 1, none⟩,
  ⟨some 7, .assign (.tmp 23), none⟩,
  ⟨some 8, .assign (.tmp 24), none⟩]) (.seq (.reg []
  [⟨some 25, .move (.tmp 2), none⟩,
  ⟨some 26, .move (.tmp 7), none⟩,
  ⟨some 27, .buildSlice 23 2 #[(0, .tmp 25), (1, .tmp 26)], none⟩,
  ⟨some 28, .call { callee := .value (.func 10), args := #[.tmp 27], argTypes := #[23] }, none⟩,
  ⟨some 9, .alloc 26, none⟩,
  ⟨none, .store 26 (.tmp 9) (.tmp 28), none⟩]) (.seq (.seq (.reg []
  [⟨some 29, .move (.tmp 8), none⟩,
  ⟨some 30, .binOp .neq 31 (.tmp 29) (.const (.int .i64 0)) 31, none⟩,
  ⟨some 31, .move (.tmp 30), none⟩,
  ⟨some 32, .load 26 (.tmp 9), (some (31, false))⟩,
  ⟨some 33, .call { callee := .value (.func 11), args := #[.tmp 32], argTypes := #[26] }, (some (31, false))⟩,
  ⟨some 34, .binOp .neq 31 (.tmp 33) (.const (.int .i64 0)) 31, (some (31, false))⟩,
  ⟨some 35, .pick (.tmp 31) (.const (.bool true)) (.tmp 34), none⟩]) (.cond (.tmp 35) (.seq (.reg []
  [⟨some 6, .assign (.const (.bool true)), none⟩]) (.ret)) (.skip))) (.seq (.reg []
  [⟨some 36, .load 26 (.tmp 9), none⟩,
  ⟨some 37, .move (.tmp 1), none⟩,
  ⟨some 38, .move (.tmp 2), none⟩,
  ⟨some 39, .build 40 #[(0, .const (.int .i64 3)), (1, .tmp 38)], none⟩,
  ⟨some 40, .buildSlice 27 1 #[(0, .tmp 39)], none⟩,
  ⟨some 41, .call { callee := .value (.func 8), args := #[.tmp 36, .tmp 37, .tmp 40], argTypes := #[26, 3, 27] }, none⟩,
  ⟨some 10, .assign (.tmp 41), none⟩]) (.seq (.reg []
  [⟨some 42, .load 26 (.tmp 9), none⟩,
  ⟨some 43, .move (.tmp 1), none⟩,
  ⟨some 44, .move (.tmp 2), none⟩,
  ⟨some 45, .build 40 #[(0, .const (.int .i64 4)), (1, .tmp 44)], none⟩,
  ⟨some 46, .buildSlice 27 1 #[(0, .tmp 45)], none⟩,
  ⟨some 47, .call { callee := .value (.func 8), args := #[.tmp 42, .tmp 43, .tmp 46], argTypes := #[26, 3, 27] }, none⟩,
  ⟨some 11, .assign (.tmp 47), none⟩]) (.seq (.seq (.reg []
  [⟨some 48, .move (.tmp 1), none⟩,
  ⟨some 49, .move (.tmp 0), none⟩,
  ⟨some 50, .binOp .lss 3 (.tmp 48) (.tmp 49) 3, none⟩]) (.cond (.tmp 50) (.seq (.reg []
  [⟨some 51, .move (.tmp 10), none⟩,
  ⟨some 52, .binOp .eql 31 (.tmp 51) (.const (.int .i64 13)) 31, none⟩,
  ⟨some 53, .move (.tmp 52), none⟩,
  ⟨some 54, .move (.tmp 11), (some (53, true))⟩,
  ⟨some 55, .binOp .eql 31 (.tmp 54) (.const (.int .i64 0)) 31, (some (53, true))⟩,
  ⟨some 56, .pick (.tmp 53) (.tmp 55) (.const (.bool false)), none⟩,
  ⟨some 6, .assign (.tmp 56), none⟩]) (.ret)) (.skip))) (.seq (.reg []
  [⟨some 57, .move (.tmp 10), none⟩,
  ⟨some 58, .binOp .eql 31 (.tmp 57) (.const (.int .i64 0)) 31, none⟩,
  ⟨some 59, .move (.tmp 58), none⟩,
  ⟨some 60, .move (.tmp 11), (some (59, true))⟩,
  ⟨some 61, .binOp .eql 31 (.tmp 60) (.const (.int .i64 14)) 31, (some (59, true))⟩,
  ⟨some 62, .pick (.tmp 59) (.tmp 61) (.const (.bool false)), none⟩,
  ⟨some 6, .assign (.tmp 62), none⟩]) (.ret)))))))))
theorem ls4 : Tryd.f4.body.map (strip Tryd.prog impCodC) = some lc4 := by kernel_rfl
theorem lcall4 {args : List AV} (hargs : args.length ≤ 63) {H0 : AHeap} (lo : Nat) (hlo : H0.length ≤ lo) {r0 : AV} {H0' : AHeap}
    (h : lavc Tryd.prog glob lc4 (args ++ List.replicate (63 - args.length) (.v undef)) H0 fun e t H => (e = .normal ∨ e = .ret) ∧ aret Tryd.prog t H [Go.ResultVar.tmp 6] fun r => Fin lo H r r0 H0') :
    ACall Tryd.prog glob (H0.length == 0) 4 args H0 r0 H0' := LCall' ctx Tryd.func4 (by kernel_rfl) ls4 (by kernel_rfl) (by kernel_rfl) hargs lo hlo h
/-- escutcheon/escutcheonlaw22.awake -/
def lc6 : LCode := .seq (.reg []
  [⟨some 0, .assign (.const (.bool false)), none⟩]) (.seq (.reg []
  [⟨some 4, .call { callee := .value (.func 12), args := #[.const (.string { data := #[105] }), .const (.string { data := #[97] }), .const (.int .i64 0), .const (.int .i64 5), .const (.slice none 0 0)], argTypes := #[9, 9, 3, 3, 23] }, none⟩,
  ⟨some 3, .move (.tmp 4), none⟩,
  ⟨some 5, .extract (.tmp 3) 0, none⟩,
  ⟨some 6, .extract (.tmp 3) 1, none⟩,
  ⟨some 1, .alloc 26, none⟩,
  ⟨none, .store 26 (.tmp 1) (.tmp 5), none⟩,
  ⟨some 2, .assign (.tmp 6), none⟩]) (.seq (.reg [⟨some 7, .move (.tmp 2), none⟩,
  ⟨some 8, .binOp .eql 31 (.tmp 7) (.const (.int .i64 0)) 31, none⟩,
  ⟨some 9, .move (.tmp 8), none⟩,
  ⟨some 10, .load 26 (.tmp 1), (some (9, true))⟩,
  ⟨some 11, .call { callee := .value (.func 16), args := #[.const (.string { data := #[105] }), .const (.string { data := #[97] })], argTypes := #[9, 9] }, (some (9, true))⟩,
  ⟨some 12, .call { callee := .value (.func 8), args := #[.tmp 10, .const (.int .i64 5), .tmp 11], argTypes := #[26, 3, 27] }, (some (9, true))⟩,
  ⟨some 13, .binOp .eql 31 (.tmp 12) (.const (.int .i64 14)) 31, (some (9, true))⟩,
  ⟨some 14, .pick (.tmp 9) (.tmp 13) (.const (.bool false)), none⟩,
  ⟨some 0, .assign (.tmp 14), none⟩]
  []) (.ret)))
theorem ls6 : Tryd.f6.body.map (strip Tryd.prog impCodC) = some lc6 := by kernel_rfl
theorem lcall6 {args : List AV} (hargs : args.length ≤ 15) {H0 : AHeap} (lo : Nat) (hlo : H0.length ≤ lo) {r0 : AV} {H0' : AHeap}
    (h : lavc Tryd.prog glob lc6 (args ++ List.replicate (15 - args.length) (.v undef)) H0 fun e t H => (e = .normal ∨ e = .ret) ∧ aret Tryd.prog t H [Go.ResultVar.tmp 0] fun r => Fin lo H r r0 H0') :
    ACall Tryd.prog glob (H0.length == 0) 6 args H0 r0 H0' := LCall' ctx Tryd.func6 (by kernel_rfl) ls6 (by kernel_rfl) (by kernel_rfl) hargs lo hlo h
/-- escutcheon/claim.Check -/
def lc8 : LCode := .seq (.reg []
  [⟨some 3, .box 26 (.tmp 0), none⟩,
  ⟨some 6, .assign (.const (.int .i64 0)), none⟩]) (.seq (.reg []
  [⟨some 11, .load 26 (.tmp 3), none⟩,
  ⟨some 12, .move (.tmp 1), none⟩,
  ⟨some 13, .build 52 #[(0, .tmp 11), (1, .tmp 12)], none⟩,
  ⟨some 7, .alloc 52, none⟩,
  ⟨none, .store 52 (.tmp 7) (.tmp 13), none⟩]) (.seq (.seq (.reg []
  [⟨some 14, .fieldAddr 52 (.tmp 7) 0, none⟩,
  ⟨some 15, .fieldAddr 26 (.tmp 14) 0, none⟩,
  ⟨some 16, .load 22 (.tmp 15), none⟩,
  ⟨some 17, .binOp .neq 22 (.tmp 16) (.const (.int .i64 6)) 22, none⟩,
  ⟨some 18, .move (.tmp 17), none⟩,
  ⟨some 19, .load 26 (.tmp 3), (some (18, false))⟩,
  ⟨some 20, .call { callee := .value (.func 11), args := #[.tmp 19], argTypes := #[26] }, (some (18, false))⟩,
  ⟨some 21, .binOp .neq 31 (.tmp 20) (.const (.int .i64 0)) 31, (some (18, false))⟩,
  ⟨some 22, .pick (.tmp 18) (.const (.bool true)) (.tmp 21), none⟩]) (.cond (.tmp 22) (.seq (.reg []
  [⟨some 6, .assign (.const (.int .i64 2)), none⟩]) (.ret)) (.skip))) (.seq (.seq (.reg []
  [⟨some 23, .move (.tmp 2), none⟩,
  ⟨some 24, .call { callee := .builtin .len, args := #[.tmp 23], argTypes := #[27] }, none⟩,
  ⟨some 25, .move (.const (.int .i64 0)), none⟩]) (.block 0 (.loop (.seq (.reg []
  [⟨some 26, .binOp .lss 3 (.tmp 25) (.tmp 24) 3, none⟩]) (.seq (.cond (.tmp 26) (.skip) (.exit 0)) (.seq (.block 1 (.seq (.reg []
  [⟨some 27, .indexAddr 27 (.tmp 23) (.tmp 25), none⟩,
  ⟨some 28, .load 40 (.tmp 27), none⟩,
  ⟨some 9, .alloc 40, none⟩,
  ⟨none, .store 40 (.tmp 9) (.tmp 28), none⟩]) (.seq (.reg []
  [⟨some 29, .load 52 (.tmp 7), none⟩,
  ⟨some 30, .load 40 (.tmp 9), none⟩,
  ⟨some 31, .call { callee := .value (.func 17), args := #[.tmp 29, .tmp 30], argTypes := #[52, 40] }, none⟩,
  ⟨some 10, .assign (.tmp 31), none⟩]) (.seq (.reg []
  [⟨some 32, .move (.tmp 10), none⟩,
  ⟨some 33, .binOp .neq 31 (.tmp 32) (.const (.int .i64 0)) 31, none⟩]) (.cond (.tmp 33) (.seq (.reg []
  [⟨some 34, .move (.tmp 10), none⟩,
  ⟨some 6, .assign (.tmp 34), none⟩]) (.ret)) (.skip)))))) (.reg []
  [⟨some 35, .binOp .add 3 (.tmp 25) (.const (.int .i64 1)) 3, none⟩,
  ⟨some 25, .move (.tmp 35), none⟩]))))))) (.seq (.reg []
  [⟨some 6, .assign (.const (.int .i64 0)), none⟩]) (.ret)))))
def ms8_0 : List Nat := [0, 1, 2, 3, 4, 5, 6, 8, 9, 10, 11, 12, 13, 14, 15, 16, 17, 18, 19, 20, 21, 22, 25, 26, 27, 28, 29, 30, 31, 32, 33, 34, 35]
theorem ls8 : Tryd.f8.body.map (strip Tryd.prog impCodC) = some lc8 := by kernel_rfl
theorem lcall8 {args : List AV} (hargs : args.length ≤ 36) {H0 : AHeap} (lo : Nat) (hlo : H0.length ≤ lo) {r0 : AV} {H0' : AHeap}
    (h : lavc Tryd.prog glob lc8 (args ++ List.replicate (36 - args.length) (.v undef)) H0 fun e t H => (e = .normal ∨ e = .ret) ∧ aret Tryd.prog t H [Go.ResultVar.tmp 6] fun r => Fin lo H r r0 H0') :
    ACall Tryd.prog glob (H0.length == 0) 8 args H0 r0 H0' := LCall' ctx Tryd.func8 (by kernel_rfl) ls8 (by kernel_rfl) (by kernel_rfl) hargs lo hlo h
/-- escutcheon/page.Of -/
def lc10 : LCode := .seq (.reg []
  [⟨some 2, .alloc 26, none⟩]) (.seq (.reg []
  [⟨some 5, .build 26 #[(0, .const (.int .i64 6))], none⟩,
  ⟨some 3, .alloc 26, none⟩,
  ⟨none, .store 26 (.tmp 3) (.tmp 5), none⟩]) (.seq (.seq (.reg []
  [⟨some 6, .move (.tmp 0), none⟩,
  ⟨some 7, .call { callee := .value (.func 23), args := #[.tmp 6, .const (.int .i64 2)], argTypes := #[23, 3] }, none⟩]) (.block 0 (.bad))) (.seq (.reg []
  [⟨some 29, .load 26 (.tmp 3), none⟩,
  ⟨none, .store 26 (.tmp 2) (.tmp 29), none⟩]) (.ret))))
theorem ls10 : Tryd.f10.body.map (strip Tryd.prog impCodC) = some lc10 := by kernel_rfl
theorem lcall10 {args : List AV} (hargs : args.length ≤ 30) {H0 : AHeap} (lo : Nat) (hlo : H0.length ≤ lo) {r0 : AV} {H0' : AHeap}
    (h : lavc Tryd.prog glob lc10 (args ++ List.replicate (30 - args.length) (.v undef)) H0 fun e t H => (e = .normal ∨ e = .ret) ∧ aret Tryd.prog t H [Go.ResultVar.cell 2 26] fun r => Fin lo H r r0 H0') :
    ACall Tryd.prog glob (H0.length == 0) 10 args H0 r0 H0' := LCall' ctx Tryd.func10 (by kernel_rfl) ls10 (by kernel_rfl) (by kernel_rfl) hargs lo hlo h
/-- escutcheon/page.Good -/
def lc11 : LCode := .seq (.reg []
  [⟨some 1, .box 26 (.tmp 0), none⟩,
  ⟨some 2, .assign (.const (.int .i64 0)), none⟩]) (.seq (.reg []
  [⟨some 3, .load 26 (.tmp 1), none⟩,
  ⟨some 4, .call { callee := .value (.func 24), args := #[.tmp 3, .const (.int .i64 1)], argTypes := #[26, 3] }, none⟩,
  ⟨some 2, .assign (.tmp 4), none⟩]) (.ret))
theorem ls11 : Tryd.f11.body.map (strip Tryd.prog impCodC) = some lc11 := by kernel_rfl
theorem lcall11 {args : List AV} (hargs : args.length ≤ 5) {H0 : AHeap} (lo : Nat) (hlo : H0.length ≤ lo) {r0 : AV} {H0' : AHeap}
    (h : lavc Tryd.prog glob lc11 (args ++ List.replicate (5 - args.length) (.v undef)) H0 fun e t H => (e = .normal ∨ e = .ret) ∧ aret Tryd.prog t H [Go.ResultVar.tmp 2] fun r => Fin lo H r r0 H0') :
    ACall Tryd.prog glob (H0.length == 0) 11 args H0 r0 H0' := LCall' ctx Tryd.func11 (by kernel_rfl) ls11 (by kernel_rfl) (by kernel_rfl) hargs lo hlo h
/-- escutcheon/claim.Make -/
def lc12 : LCode := .seq (.reg []
  [⟨some 10, .alloc 26, none⟩,
  ⟨some 11, .assign (.const (.int .i64 0)), none⟩]) (.seq (.reg []
  [⟨some 18, .move (.tmp 2), none⟩,
  ⟨some 19, .call { callee := .value (.func 9), args := #[.tmp 18], argTypes := #[3] }, none⟩,
  ⟨some 17, .move (.tmp 19), none⟩,
  ⟨some 20, .extract (.tmp 17) 0, none⟩,
  ⟨some 21, .extract (.tmp 17) 1, none⟩,
  ⟨some 12, .assign (.tmp 20), none⟩,
  ⟨some 13, .assign (.tmp 21), none⟩]) (.seq (.seq (.reg []
  [⟨some 22, .move (.tmp 13), none⟩,
  ⟨some 23, .binOp .neq 31 (.tmp 22) (.const (.int .i64 0)) 31, none⟩]) (.cond (.tmp 23) (.seq (.reg []
  [⟨some 24, .build 26 #[], none⟩,
  ⟨some 25, .move (.tmp 13), none⟩,
  ⟨none, .store 26 (.tmp 10) (.tmp 24), none⟩,
  ⟨some 11, .assign (.tmp 25), none⟩]) (.ret)) (.skip))) (.seq (.reg []
  [⟨some 27, .move (.tmp 3), none⟩,
  ⟨some 28, .call { callee := .value (.func 9), args := #[.tmp 27], argTypes := #[3] }, none⟩,
  ⟨some 26, .move (.tmp 28), none⟩,
  ⟨some 29, .extract (.tmp 26) 0, none⟩,
  ⟨some 30, .extract (.tmp 26) 1, none⟩,
  ⟨some 14, .assign (.tmp 29), none⟩,
  ⟨some 13, .assign (.tmp 30), none⟩]) (.seq (.seq (.reg []
  [⟨some 31, .move (.tmp 13), none⟩,
  ⟨some 32, .binOp .neq 31 (.tmp 31) (.const (.int .i64 0)) 31, none⟩]) (.cond (.tmp 32) (.seq (.reg []
  [⟨some 33, .build 26 #[], none⟩,
  ⟨some 34, .move (.tmp 13), none⟩,
  ⟨none, .store 26 (.tmp 10) (.tmp 33), none⟩,
  ⟨some 11, .assign (.tmp 34), none⟩]) (.ret)) (.skip))) (.seq (.reg []
  [⟨some 35, .move (.tmp 0), none⟩,
  ⟨some 36, .move (.tmp 1), none⟩,
  ⟨some 37, .move (.tmp 12), none⟩,
  ⟨some 38, .move (.tmp 14), none⟩,
  ⟨some 39, .buildSlice 23 8 #[(0, .const (.string { data := #[105, 115, 115] })), (1, .tmp 35), (2, .const (.string { data := #[97, 117, 100] })), (3, .tmp 36), (4, .const (.string { data := #[110, 98, 102] })), (5, .tmp 37), (6, .const (.string { data := #[101, 120, 112] })), (7, .tmp 38)], none⟩,
  ⟨some 40, .move (.tmp 4), none⟩,
  ⟨some 41, .buildSlice 88 2 #[(0, .tmp 39), (1, .tmp 40)], none⟩,
  ⟨some 42, .call { callee := .value (.func 25), args := #[.tmp 41], argTypes := #[88] }, none⟩,
  ⟨some 43, .call { callee := .value (.func 10), args := #[.tmp 42], argTypes := #[23] }, none⟩,
  ⟨some 15, .alloc 26, none⟩,
  ⟨none, .store 26 (.tmp 15) (.tmp 43), none⟩]) (.seq (.seq (.reg []
  [⟨some 44, .load 26 (.tmp 15), none⟩,
  ⟨some 45, .call { callee := .value (.func 11), args := #[.tmp 44], argTypes := #[26] }, none⟩,
  ⟨some 16, .assign (.tmp 45), none⟩]) (.seq (.reg []
  [⟨some 46, .move (.tmp 16), none⟩,
  ⟨some 47, .binOp .neq 31 (.tmp 46) (.const (.int .i64 0)) 31, none⟩]) (.cond (.tmp 47) (.seq (.reg []
  [⟨some 48, .build 26 #[], none⟩,
  ⟨some 49, .move (.tmp 16), none⟩,
  ⟨none, .store 26 (.tmp 10) (.tmp 48), none⟩,
  ⟨some 11, .assign (.tmp 49), none⟩]) (.ret)) (.skip)))) (.seq (.reg []
  [⟨some 50, .load 26 (.tmp 15), none⟩,
  ⟨none, .store 26 (.tmp 10) (.tmp 50), none⟩,
  ⟨some 11, .assign (.const (.int .i64 0)), none⟩]) (.ret))))))))
theorem ls12 : Tryd.f12.body.map (strip Tryd.prog impCodC) = some lc12 := by kernel_rfl
theorem lcall12 {args : List AV} (hargs : args.length ≤ 51) {H0 : AHeap} (lo : Nat) (hlo : H0.length ≤ lo) {r0 : AV} {H0' : AHeap}
    (h : lavc Tryd.prog glob lc12 (args ++ List.replicate (51 - args.length) (.v undef)) H0 fun e t H => (e = .normal ∨ e = .ret) ∧ aret Tryd.prog t H [Go.ResultVar.cell 10 26, Go.ResultVar.tmp 11] fun r => Fin lo H r r0 H0') :
    ACall Tryd.prog glob (H0.length == 0) 12 args H0 r0 H0' := LCall' ctx Tryd.func12 (by kernel_rfl) ls12 (by kernel_rfl) (by kernel_rfl) hargs lo hlo h
/-- escutcheon/claim.Usual -/
def lc16 : LCode := .seq (.reg []
  [⟨some 4, .assign (.const (.slice none 0 0)), none⟩]) (.seq (.reg []
  [⟨some 5, .move (.tmp 0), none⟩,
  ⟨some 6, .build 40 #[(0, .const (.int .i64 1)), (1, .const (.string { data := #[105, 115, 115] })), (2, .tmp 5)], none⟩,
  ⟨some 7, .move (.tmp 1), none⟩,
  ⟨some 8, .build 40 #[(0, .const (.int .i64 1)), (1, .const (.string { data := #[97, 117, 100] })), (2, .tmp 7)], none⟩,
  ⟨some 9, .build 40 #[(0, .const (.int .i64 3)), (1, .const (.string { data := #[110, 98, 102] })), (2, .const (.string { data := #[] }))], none⟩,
  ⟨some 10, .build 40 #[(0, .const (.int .i64 4)), (1, .const (.string { data := #[101, 120, 112] })), (2, .const (.string { data := #[] }))], none⟩,
  ⟨some 11, .buildSlice 27 4 #[(0, .tmp 6), (1, .tmp 8), (2, .tmp 9), (3, .tmp 10)], none⟩,
  ⟨some 4, .assign (.tmp 11), none⟩]) (.ret))
theorem ls16 : Tryd.f16.body.map (strip Tryd.prog impCodC) = some lc16 := by kernel_rfl
theorem lcall16 {args : List AV} (hargs : args.length ≤ 12) {H0 : AHeap} (lo : Nat) (hlo : H0.length ≤ lo) {r0 : AV} {H0' : AHeap}
    (h : lavc Tryd.prog glob lc16 (args ++ List.replicate (12 - args.length) (.v undef)) H0 fun e t H => (e = .normal ∨ e = .ret) ∧ aret Tryd.prog t H [Go.ResultVar.tmp 4] fun r => Fin lo H r r0 H0') :
    ACall Tryd.prog glob (H0.length == 0) 16 args H0 r0 H0' := LCall' ctx Tryd.func16 (by kernel_rfl) ls16 (by kernel_rfl) (by kernel_rfl) hargs lo hlo h
/-- (escutcheon/claim.claims).check -/
def lc17 : LCode := .seq (.reg []
  [⟨some 2, .box 52 (.tmp 0), none⟩,
  ⟨some 3, .box 40 (.tmp 1), none⟩,
  ⟨some 4, .assign (.const (.int .i64 0)), none⟩]) (.seq (.seq (.reg []
  [⟨some 7, .fieldAddr 40 (.tmp 3) 0, none⟩,
  ⟨some 8, .load 38 (.tmp 7), none⟩,
  ⟨some 9, .binOp .lss 38 (.tmp 8) (.const (.int .i64 1)) 38, none⟩,
  ⟨some 10, .move (.tmp 9), none⟩,
  ⟨some 11, .fieldAddr 40 (.tmp 3) 0, (some (10, false))⟩,
  ⟨some 12, .load 38 (.tmp 11), (some (10, false))⟩,
  ⟨some 13, .binOp .gtr 38 (.tmp 12) (.const (.int .i64 4)) 38, (some (10, false))⟩,
  ⟨some 14, .pick (.tmp 10) (.const (.bool true)) (.tmp 13), none⟩]) (.cond (.tmp 14) (.seq (.reg []
  [⟨some 4, .assign (.const (.int .i64 2)), none⟩]) (.ret)) (.skip))) (.seq (.reg []
  [⟨some 16, .load 52 (.tmp 2), none⟩,
  ⟨some 17, .fieldAddr 40 (.tmp 3) 1, none⟩,
  ⟨some 18, .load 9 (.tmp 17), none⟩,
  ⟨some 19, .call { callee := .value (.func 29), args := #[.tmp 16, .tmp 18], argTypes := #[52, 9] }, none⟩,
  ⟨some 15, .move (.tmp 19), none⟩,
  ⟨some 20, .extract (.tmp 15) 0, none⟩,
  ⟨some 21, .extract (.tmp 15) 1, none⟩,
  ⟨some 5, .assign (.tmp 20), none⟩,
  ⟨some 6, .assign (.tmp 21), none⟩]) (.seq (.seq (.reg []
  [⟨some 22, .move (.tmp 6), none⟩,
  ⟨some 23, .unOp .not 4 (.tmp 22), none⟩]) (.cond (.tmp 23) (.seq (.reg []
  [⟨some 4, .assign (.const (.int .i64 15)), none⟩]) (.ret)) (.skip))) (.seq (.reg []
  [⟨some 24, .load 40 (.tmp 3), none⟩,
  ⟨some 25, .move (.tmp 5), none⟩,
  ⟨some 26, .fieldAddr 52 (.tmp 2) 1, none⟩,
  ⟨some 27, .load 3 (.tmp 26), none⟩,
  ⟨some 28, .call { callee := .value (.func 30), args := #[.tmp 24, .tmp 25, .tmp 27], argTypes := #[40, 9, 3] }, none⟩,
  ⟨some 4, .assign (.tmp 28), none⟩]) (.ret)))))
theorem ls17 : Tryd.f17.body.map (strip Tryd.prog impCodC) = some lc17 := by kernel_rfl
theorem lcall17 {args : List AV} (hargs : args.length ≤ 29) {H0 : AHeap} (lo : Nat) (hlo : H0.length ≤ lo) {r0 : AV} {H0' : AHeap}
    (h : lavc Tryd.prog glob lc17 (args ++ List.replicate (29 - args.length) (.v undef)) H0 fun e t H => (e = .normal ∨ e = .ret) ∧ aret Tryd.prog t H [Go.ResultVar.tmp 4] fun r => Fin lo H r r0 H0') :
    ACall Tryd.prog glob (H0.length == 0) 17 args H0 r0 H0' := LCall' ctx Tryd.func17 (by kernel_rfl) ls17 (by kernel_rfl) (by kernel_rfl) hargs lo hlo h
/-- (escutcheon/page.Value).good -/
def lc24 : LCode := .seq (.reg []
  [⟨some 2, .box 26 (.tmp 0), none⟩,
  ⟨some 4, .assign (.const (.int .i64 0)), none⟩]) (.seq (.block 0 (.seq (.reg []
  [⟨some 9, .move (.tmp 1), none⟩,
  ⟨some 10, .binOp .gtr 3 (.tmp 9) (.const (.int .i64 8)) 3, none⟩,
  ⟨some 8, .assign (.tmp 10), none⟩]) (.cond (.tmp 8) (.seq (.reg []
  [⟨some 4, .assign (.const (.int .i64 9)), none⟩]) (.ret)) (.seq (.reg []
  [⟨some 12, .load 26 (.tmp 2), none⟩,
  ⟨some 13, .call { callee := .value (.func 39), args := #[.tmp 12], argTypes := #[26] }, none⟩,
  ⟨some 14, .unOp .not 4 (.tmp 13), none⟩,
  ⟨some 11, .assign (.tmp 14), none⟩]) (.cond (.tmp 11) (.seq (.reg []
  [⟨some 4, .assign (.const (.int .i64 2)), none⟩]) (.ret)) (.seq (.reg []
  [⟨some 16, .fieldAddr 26 (.tmp 2) 3, none⟩,
  ⟨some 17, .load 24 (.tmp 16), none⟩,
  ⟨some 18, .call { callee := .builtin .len, args := #[.tmp 17], argTypes := #[24] }, none⟩,
  ⟨some 19, .binOp .gtr 3 (.tmp 18) (.const (.int .i64 64)) 3, none⟩,
  ⟨some 15, .assign (.tmp 19), none⟩]) (.cond (.tmp 15) (.seq (.reg []
  [⟨some 4, .assign (.const (.int .i64 11)), none⟩]) (.ret)) (.seq (.reg []
  [⟨some 21, .fieldAddr 26 (.tmp 2) 2, none⟩,
  ⟨some 22, .load 23 (.tmp 21), none⟩,
  ⟨some 23, .call { callee := .value (.func 40), args := #[.tmp 22], argTypes := #[23] }, none⟩,
  ⟨some 20, .assign (.tmp 23), none⟩]) (.cond (.tmp 20) (.seq (.reg []
  [⟨some 4, .assign (.const (.int .i64 10)), none⟩]) (.ret)) (.skip)))))))))) (.seq (.seq (.reg []
  [⟨some 24, .fieldAddr 26 (.tmp 2) 3, none⟩,
  ⟨some 25, .load 24 (.tmp 24), none⟩,
  ⟨some 26, .call { callee := .builtin .len, args := #[.tmp 25], argTypes := #[24] }, none⟩,
  ⟨some 27, .move (.const (.int .i64 0)), none⟩]) (.block 1 (.loop (.seq (.reg []
  [⟨some 28, .binOp .lss 3 (.tmp 27) (.tmp 26) 3, none⟩]) (.seq (.cond (.tmp 28) (.skip) (.exit 1)) (.seq (.block 2 (.seq (.reg []
  [⟨some 29, .indexAddr 24 (.tmp 25) (.tmp 27), none⟩,
  ⟨some 30, .load 26 (.tmp 29), none⟩,
  ⟨some 6, .alloc 26, none⟩,
  ⟨none, .store 26 (.tmp 6) (.tmp 30), none⟩]) (.seq (.reg []
  [⟨some 31, .load 26 (.tmp 6), none⟩,
  ⟨some 32, .move (.tmp 1), none⟩,
  ⟨some 33, .binOp .add 3 (.tmp 32) (.const (.int .i64 1)) 3, none⟩,
  ⟨some 34, .call { callee := .value (.func 24), args := #[.tmp 31, .tmp 33], argTypes := #[26, 3] }, none⟩,
  ⟨some 7, .assign (.tmp 34), none⟩]) (.seq (.reg []
  [⟨some 35, .move (.tmp 7), none⟩,
  ⟨some 36, .binOp .neq 31 (.tmp 35) (.const (.int .i64 0)) 31, none⟩]) (.cond (.tmp 36) (.seq (.reg []
  [⟨some 37, .move (.tmp 7), none⟩,
  ⟨some 4, .assign (.tmp 37), none⟩]) (.ret)) (.skip)))))) (.reg []
  [⟨some 38, .binOp .add 3 (.tmp 27) (.const (.int .i64 1)) 3, none⟩,
  ⟨some 27, .move (.tmp 38), none⟩]))))))) (.seq (.reg []
  [⟨some 4, .assign (.const (.int .i64 0)), none⟩]) (.ret))))
def ms24_0 : List Nat := [0, 2, 3, 4, 5, 6, 7, 8, 9, 10, 11, 12, 13, 14, 15, 16, 17, 18, 19, 20, 21, 22, 23, 24, 27, 28, 29, 30, 31, 32, 33, 34, 35, 36, 37, 38]
theorem ls24 : Tryd.f24.body.map (strip Tryd.prog impCodC) = some lc24 := by kernel_rfl
theorem lcall24 {args : List AV} (hargs : args.length ≤ 39) {H0 : AHeap} (lo : Nat) (hlo : H0.length ≤ lo) {r0 : AV} {H0' : AHeap}
    (h : lavc Tryd.prog glob lc24 (args ++ List.replicate (39 - args.length) (.v undef)) H0 fun e t H => (e = .normal ∨ e = .ret) ∧ aret Tryd.prog t H [Go.ResultVar.tmp 4] fun r => Fin lo H r r0 H0') :
    ACall Tryd.prog glob (H0.length == 0) 24 args H0 r0 H0' := LCall' ctx Tryd.func24 (by kernel_rfl) ls24 (by kernel_rfl) (by kernel_rfl) hargs lo hlo h
/-- (escutcheon/claim.claims).text -/
def lc29 : LCode := .seq (.reg []
  [⟨some 2, .box 52 (.tmp 0), none⟩,
  ⟨some 4, .assign (.const (.string { data := #[] })), none⟩,
  ⟨some 5, .assign (.const (.bool false)), none⟩]) (.seq (.reg []
  [⟨some 9, .fieldAddr 52 (.tmp 2) 0, none⟩,
  ⟨some 10, .load 26 (.tmp 9), none⟩,
  ⟨some 11, .move (.tmp 1), none⟩,
  ⟨some 12, .call { callee := .value (.func 44), args := #[.tmp 10, .tmp 11], argTypes := #[26, 9] }, none⟩,
  ⟨some 8, .move (.tmp 12), none⟩,
  ⟨some 13, .extract (.tmp 8) 0, none⟩,
  ⟨some 14, .extract (.tmp 8) 1, none⟩,
  ⟨some 6, .alloc 26, none⟩,
  ⟨none, .store 26 (.tmp 6) (.tmp 13), none⟩,
  ⟨some 7, .assign (.tmp 14), none⟩]) (.seq (.reg [⟨some 15, .fieldAddr 26 (.tmp 6) 1, none⟩,
  ⟨some 16, .load 9 (.tmp 15), none⟩,
  ⟨some 17, .move (.tmp 7), none⟩,
  ⟨some 18, .move (.tmp 17), none⟩,
  ⟨some 19, .fieldAddr 26 (.tmp 6) 0, (some (18, true))⟩,
  ⟨some 20, .load 22 (.tmp 19), (some (18, true))⟩,
  ⟨some 21, .binOp .eql 22 (.tmp 20) (.const (.int .i64 4)) 22, (some (18, true))⟩,
  ⟨some 22, .pick (.tmp 18) (.tmp 21) (.const (.bool false)), none⟩,
  ⟨some 4, .assign (.tmp 16), none⟩,
  ⟨some 5, .assign (.tmp 22), none⟩]
  []) (.ret)))
theorem ls29 : Tryd.f29.body.map (strip Tryd.prog impCodC) = some lc29 := by kernel_rfl
theorem lcall29 {args : List AV} (hargs : args.length ≤ 23) {H0 : AHeap} (lo : Nat) (hlo : H0.length ≤ lo) {r0 : AV} {H0' : AHeap}
    (h : lavc Tryd.prog glob lc29 (args ++ List.replicate (23 - args.length) (.v undef)) H0 fun e t H => (e = .normal ∨ e = .ret) ∧ aret Tryd.prog t H [Go.ResultVar.tmp 4, Go.ResultVar.tmp 5] fun r => Fin lo H r r0 H0') :
    ACall Tryd.prog glob (H0.length == 0) 29 args H0 r0 H0' := LCall' ctx Tryd.func29 (by kernel_rfl) ls29 (by kernel_rfl) (by kernel_rfl) hargs lo hlo h
/-- (escutcheon/claim.Rule).wrong -/
def lc30 : LCode := .seq (.reg []
  [⟨some 3, .box 40 (.tmp 0), none⟩,
  ⟨some 6, .assign (.const (.int .i64 0)), none⟩]) (.seq (.seq (.reg []
  [⟨some 9, .fieldAddr 40 (.tmp 3) 0, none⟩,
  ⟨some 10, .load 38 (.tmp 9), none⟩,
  ⟨some 11, .binOp .eql 38 (.tmp 10) (.const (.int .i64 1)) 38, none⟩,
  ⟨some 12, .move (.tmp 11), none⟩,
  ⟨some 13, .move (.tmp 1), (some (12, true))⟩,
  ⟨some 14, .fieldAddr 40 (.tmp 3) 2, (some (12, true))⟩,
  ⟨some 15, .load 9 (.tmp 14), (some (12, true))⟩,
  ⟨some 16, .binOp .neq 9 (.tmp 13) (.tmp 15) 9, (some (12, true))⟩,
  ⟨some 17, .pick (.tmp 12) (.tmp 16) (.const (.bool false)), none⟩]) (.cond (.tmp 17) (.seq (.reg []
  [⟨some 6, .assign (.const (.int .i64 15)), none⟩]) (.ret)) (.skip))) (.seq (.seq (.reg []
  [⟨some 18, .fieldAddr 40 (.tmp 3) 0, none⟩,
  ⟨some 19, .load 38 (.tmp 18), none⟩,
  ⟨some 20, .binOp .eql 38 (.tmp 19) (.const (.int .i64 1)) 38, none⟩,
  ⟨some 21, .move (.tmp 20), none⟩,
  ⟨some 22, .fieldAddr 40 (.tmp 3) 0, (some (21, false))⟩,
  ⟨some 23, .load 38 (.tmp 22), (some (21, false))⟩,
  ⟨some 24, .binOp .eql 38 (.tmp 23) (.const (.int .i64 2)) 38, (some (21, false))⟩,
  ⟨some 25, .pick (.tmp 21) (.const (.bool true)) (.tmp 24), none⟩]) (.cond (.tmp 25) (.seq (.reg []
  [⟨some 6, .assign (.const (.int .i64 0)), none⟩]) (.ret)) (.skip))) (.seq (.reg []
  [⟨some 27, .move (.tmp 1), none⟩,
  ⟨some 28, .call { callee := .value (.func 45), args := #[.tmp 27], argTypes := #[9] }, none⟩,
  ⟨some 26, .move (.tmp 28), none⟩,
  ⟨some 29, .extract (.tmp 26) 0, none⟩,
  ⟨some 30, .extract (.tmp 26) 1, none⟩,
  ⟨some 7, .assign (.tmp 29), none⟩,
  ⟨some 8, .assign (.tmp 30), none⟩]) (.seq (.block 0 (.seq (.reg []
  [⟨some 32, .move (.tmp 8), none⟩,
  ⟨some 33, .binOp .neq 31 (.tmp 32) (.const (.int .i64 0)) 31, none⟩,
  ⟨some 31, .assign (.tmp 33), none⟩]) (.cond (.tmp 31) (.seq (.reg []
  [⟨some 6, .assign (.const (.int .i64 12)), none⟩]) (.ret)) (.seq (.reg []
  [⟨some 35, .fieldAddr 40 (.tmp 3) 0, none⟩,
  ⟨some 36, .load 38 (.tmp 35), none⟩,
  ⟨some 37, .binOp .eql 38 (.tmp 36) (.const (.int .i64 3)) 38, none⟩,
  ⟨some 38, .move (.tmp 37), none⟩,
  ⟨some 39, .move (.tmp 7), (some (38, true))⟩,
  ⟨some 40, .move (.tmp 2), (some (38, true))⟩,
  ⟨some 41, .binOp .gtr 3 (.tmp 39) (.tmp 40) 3, (some (38, true))⟩,
  ⟨some 42, .pick (.tmp 38) (.tmp 41) (.const (.bool false)), none⟩,
  ⟨some 34, .assign (.tmp 42), none⟩]) (.cond (.tmp 34) (.seq (.reg []
  [⟨some 6, .assign (.const (.int .i64 13)), none⟩]) (.ret)) (.seq (.reg []
  [⟨some 44, .fieldAddr 40 (.tmp 3) 0, none⟩,
  ⟨some 45, .load 38 (.tmp 44), none⟩,
  ⟨some 46, .binOp .eql 38 (.tmp 45) (.const (.int .i64 4)) 38, none⟩,
  ⟨some 47, .move (.tmp 46), none⟩,
  ⟨some 48, .move (.tmp 7), (some (47, true))⟩,
  ⟨some 49, .move (.tmp 2), (some (47, true))⟩,
  ⟨some 50, .binOp .leq 3 (.tmp 48) (.tmp 49) 3, (some (47, true))⟩,
  ⟨some 51, .pick (.tmp 47) (.tmp 50) (.const (.bool false)), none⟩,
  ⟨some 43, .assign (.tmp 51), none⟩]) (.cond (.tmp 43) (.seq (.reg []
  [⟨some 6, .assign (.const (.int .i64 14)), none⟩]) (.ret)) (.skip)))))))) (.seq (.reg []
  [⟨some 6, .assign (.const (.int .i64 0)), none⟩]) (.ret))))))
theorem ls30 : Tryd.f30.body.map (strip Tryd.prog impCodC) = some lc30 := by kernel_rfl
theorem lcall30 {args : List AV} (hargs : args.length ≤ 52) {H0 : AHeap} (lo : Nat) (hlo : H0.length ≤ lo) {r0 : AV} {H0' : AHeap}
    (h : lavc Tryd.prog glob lc30 (args ++ List.replicate (52 - args.length) (.v undef)) H0 fun e t H => (e = .normal ∨ e = .ret) ∧ aret Tryd.prog t H [Go.ResultVar.tmp 6] fun r => Fin lo H r r0 H0') :
    ACall Tryd.prog glob (H0.length == 0) 30 args H0 r0 H0' := LCall' ctx Tryd.func30 (by kernel_rfl) ls30 (by kernel_rfl) (by kernel_rfl) hargs lo hlo h
/-- (escutcheon/page.Value).form -/
def lc39 : LCode := .seq (.reg []
  [⟨some 1, .box 26 (.tmp 0), none⟩,
  ⟨some 2, .assign (.const (.bool false)), none⟩]) (.seq (.seq (.reg []
  [⟨some 3, .fieldAddr 26 (.tmp 1) 0, none⟩,
  ⟨some 4, .load 22 (.tmp 3), none⟩]) (.block 0 (.seq (.seq (.reg []
  [⟨some 6, .binOp .eql 22 (.tmp 4) (.const (.int .i64 0)) 22, none⟩,
  ⟨some 5, .assign (.tmp 6), none⟩]) (.cond (.tmp 5) (.skip) (.seq (.reg []
  [⟨some 7, .binOp .eql 22 (.tmp 4) (.const (.int .i64 1)) 22, none⟩,
  ⟨some 5, .assign (.tmp 7), none⟩]) (.cond (.tmp 5) (.skip) (.reg []
  [⟨some 8, .binOp .eql 22 (.tmp 4) (.const (.int .i64 2)) 22, none⟩,
  ⟨some 5, .assign (.tmp 8), none⟩]))))) (.cond (.tmp 5) (.seq (.reg []
  [⟨some 9, .fieldAddr 26 (.tmp 1) 1, none⟩,
  ⟨some 10, .load 9 (.tmp 9), none⟩,
  ⟨some 11, .binOp .eql 9 (.tmp 10) (.const (.string { data := #[] })) 9, none⟩,
  ⟨some 12, .move (.tmp 11), none⟩,
  ⟨some 13, .fieldAddr 26 (.tmp 1) 2, (some (12, true))⟩,
  ⟨some 14, .load 23 (.tmp 13), (some (12, true))⟩,
  ⟨some 15, .call { callee := .builtin .len, args := #[.tmp 14], argTypes := #[23] }, (some (12, true))⟩,
  ⟨some 16, .binOp .eql 3 (.tmp 15) (.const (.int .i64 0)) 3, (some (12, true))⟩,
  ⟨some 17, .pick (.tmp 12) (.tmp 16) (.const (.bool false)), none⟩,
  ⟨some 18, .move (.tmp 17), none⟩,
  ⟨some 19, .fieldAddr 26 (.tmp 1) 3, (some (18, true))⟩,
  ⟨some 20, .load 24 (.tmp 19), (some (18, true))⟩,
  ⟨some 21, .call { callee := .builtin .len, args := #[.tmp 20], argTypes := #[24] }, (some (18, true))⟩,
  ⟨some 22, .binOp .eql 3 (.tmp 21) (.const (.int .i64 0)) 3, (some (18, true))⟩,
  ⟨some 23, .pick (.tmp 18) (.tmp 22) (.const (.bool false)), none⟩,
  ⟨some 2, .assign (.tmp 23), none⟩]) (.ret)) (.seq (.reg []
  [⟨some 25, .binOp .eql 22 (.tmp 4) (.const (.int .i64 3)) 22, none⟩,
  ⟨some 24, .assign (.tmp 25), none⟩]) (.cond (.tmp 24) (.seq (.reg [⟨some 26, .fieldAddr 26 (.tmp 1) 2, none⟩,
  ⟨some 27, .load 23 (.tmp 26), none⟩,
  ⟨some 28, .call { callee := .builtin .len, args := #[.tmp 27], argTypes := #[23] }, none⟩,
  ⟨some 29, .binOp .eql 3 (.tmp 28) (.const (.int .i64 0)) 3, none⟩,
  ⟨some 30, .move (.tmp 29), none⟩,
  ⟨some 31, .fieldAddr 26 (.tmp 1) 3, (some (30, true))⟩,
  ⟨some 32, .load 24 (.tmp 31), (some (30, true))⟩,
  ⟨some 33, .call { callee := .builtin .len, args := #[.tmp 32], argTypes := #[24] }, (some (30, true))⟩,
  ⟨some 34, .binOp .eql 3 (.tmp 33) (.const (.int .i64 0)) 3, (some (30, true))⟩,
  ⟨some 35, .pick (.tmp 30) (.tmp 34) (.const (.bool false)), none⟩,
  ⟨some 36, .move (.tmp 35), none⟩,
  ⟨some 37, .fieldAddr 26 (.tmp 1) 1, (some (36, true))⟩,
  ⟨some 38, .load 9 (.tmp 37), (some (36, true))⟩,
  ⟨some 39, .binOp .neq 9 (.tmp 38) (.const (.string { data := #[] })) 9, (some (36, true))⟩,
  ⟨some 40, .pick (.tmp 36) (.tmp 39) (.const (.bool false)), none⟩,
  ⟨some 41, .move (.tmp 40), none⟩,
  ⟨some 42, .fieldAddr 26 (.tmp 1) 1, (some (41, true))⟩,
  ⟨some 43, .load 9 (.tmp 42), (some (41, true))⟩,
  ⟨some 44, .call { callee := .builtin .len, args := #[.tmp 43], argTypes := #[9] }, (some (41, true))⟩,
  ⟨some 45, .binOp .leq 3 (.tmp 44) (.const (.int .i64 40)) 3, (some (41, true))⟩,
  ⟨some 46, .pick (.tmp 41) (.tmp 45) (.const (.bool false)), none⟩,
  ⟨some 47, .move (.tmp 46), none⟩,
  ⟨some 48, .fieldAddr 26 (.tmp 1) 1, (some (47, true))⟩,
  ⟨some 49, .load 9 (.tmp 48), (some (47, true))⟩,
  ⟨some 50, .call { callee := .value (.func 53), args := #[.tmp 49], argTypes := #[9] }, (some (47, true))⟩,
  ⟨some 51, .fieldAddr 26 (.tmp 1) 1, (some (47, true))⟩,
  ⟨some 52, .load 9 (.tmp 51), (some (47, true))⟩,
  ⟨some 53, .call { callee := .builtin .len, args := #[.tmp 52], argTypes := #[9] }, (some (47, true))⟩,
  ⟨some 54, .binOp .eql 3 (.tmp 50) (.tmp 53) 3, (some (47, true))⟩,
  ⟨some 55, .pick (.tmp 47) (.tmp 54) (.const (.bool false)), none⟩,
  ⟨some 2, .assign (.tmp 55), none⟩]
  []) (.ret)) (.seq (.reg []
  [⟨some 57, .binOp .eql 22 (.tmp 4) (.const (.int .i64 4)) 22, none⟩,
  ⟨some 56, .assign (.tmp 57), none⟩]) (.cond (.tmp 56) (.seq (.reg []
  [⟨some 58, .fieldAddr 26 (.tmp 1) 2, none⟩,
  ⟨some 59, .load 23 (.tmp 58), none⟩,
  ⟨some 60, .call { callee := .builtin .len, args := #[.tmp 59], argTypes := #[23] }, none⟩,
  ⟨some 61, .binOp .eql 3 (.tmp 60) (.const (.int .i64 0)) 3, none⟩,
  ⟨some 62, .move (.tmp 61), none⟩,
  ⟨some 63, .fieldAddr 26 (.tmp 1) 3, (some (62, true))⟩,
  ⟨some 64, .load 24 (.tmp 63), (some (62, true))⟩,
  ⟨some 65, .call { callee := .builtin .len, args := #[.tmp 64], argTypes := #[24] }, (some (62, true))⟩,
  ⟨some 66, .binOp .eql 3 (.tmp 65) (.const (.int .i64 0)) 3, (some (62, true))⟩,
  ⟨some 67, .pick (.tmp 62) (.tmp 66) (.const (.bool false)), none⟩,
  ⟨some 68, .move (.tmp 67), none⟩,
  ⟨some 69, .fieldAddr 26 (.tmp 1) 1, (some (68, true))⟩,
  ⟨some 70, .load 9 (.tmp 69), (some (68, true))⟩,
  ⟨some 71, .call { callee := .value (.func 54), args := #[.tmp 70], argTypes := #[9] }, (some (68, true))⟩,
  ⟨some 72, .pick (.tmp 68) (.tmp 71) (.const (.bool false)), none⟩,
  ⟨some 2, .assign (.tmp 72), none⟩]) (.ret)) (.seq (.reg []
  [⟨some 74, .binOp .eql 22 (.tmp 4) (.const (.int .i64 5)) 22, none⟩,
  ⟨some 73, .assign (.tmp 74), none⟩]) (.cond (.tmp 73) (.seq (.reg []
  [⟨some 75, .fieldAddr 26 (.tmp 1) 1, none⟩,
  ⟨some 76, .load 9 (.tmp 75), none⟩,
  ⟨some 77, .binOp .eql 9 (.tmp 76) (.const (.string { data := #[] })) 9, none⟩,
  ⟨some 78, .move (.tmp 77), none⟩,
  ⟨some 79, .fieldAddr 26 (.tmp 1) 2, (some (78, true))⟩,
  ⟨some 80, .load 23 (.tmp 79), (some (78, true))⟩,
  ⟨some 81, .call { callee := .builtin .len, args := #[.tmp 80], argTypes := #[23] }, (some (78, true))⟩,
  ⟨some 82, .binOp .eql 3 (.tmp 81) (.const (.int .i64 0)) 3, (some (78, true))⟩,
  ⟨some 83, .pick (.tmp 78) (.tmp 82) (.const (.bool false)), none⟩,
  ⟨some 2, .assign (.tmp 83), none⟩]) (.ret)) (.seq (.reg []
  [⟨some 85, .binOp .eql 22 (.tmp 4) (.const (.int .i64 6)) 22, none⟩,
  ⟨some 84, .assign (.tmp 85), none⟩]) (.cond (.tmp 84) (.seq (.reg []
  [⟨some 86, .fieldAddr 26 (.tmp 1) 1, none⟩,
  ⟨some 87, .load 9 (.tmp 86), none⟩,
  ⟨some 88, .binOp .eql 9 (.tmp 87) (.const (.string { data := #[] })) 9, none⟩,
  ⟨some 89, .move (.tmp 88), none⟩,
  ⟨some 90, .fieldAddr 26 (.tmp 1) 2, (some (89, true))⟩,
  ⟨some 91, .load 23 (.tmp 90), (some (89, true))⟩,
  ⟨some 92, .call { callee := .builtin .len, args := #[.tmp 91], argTypes := #[23] }, (some (89, true))⟩,
  ⟨some 93, .fieldAddr 26 (.tmp 1) 3, (some (89, true))⟩,
  ⟨some 94, .load 24 (.tmp 93), (some (89, true))⟩,
  ⟨some 95, .call { callee := .builtin .len, args := #[.tmp 94], argTypes := #[24] }, (some (89, true))⟩,
  ⟨some 96, .binOp .eql 3 (.tmp 92) (.tmp 95) 3, (some (89, true))⟩,
  ⟨some 97, .pick (.tmp 89) (.tmp 96) (.const (.bool false)), none⟩,
  ⟨some 98, .move (.tmp 97), none⟩,
  ⟨some 99, .fieldAddr 26 (.tmp 1) 2, (some (98, true))⟩,
  ⟨some 100, .load 23 (.tmp 99), (some (98, true))⟩,
  ⟨some 101, .call { callee := .value (.func 55), args := #[.tmp 100, .func 56], argTypes := #[23, 103] }, (some (98, true))⟩,
  ⟨some 102, .unOp .not 4 (.tmp 101), (some (98, true))⟩,
  ⟨some 103, .pick (.tmp 98) (.tmp 102) (.const (.bool false)), none⟩,
  ⟨some 2, .assign (.tmp 103), none⟩]) (.ret)) (.skip))))))))))))) (.seq (.reg []
  [⟨some 2, .assign (.const (.bool false)), none⟩]) (.ret)))
theorem ls39 : Tryd.f39.body.map (strip Tryd.prog impCodC) = some lc39 := by kernel_rfl
theorem lcall39 {args : List AV} (hargs : args.length ≤ 104) {H0 : AHeap} (lo : Nat) (hlo : H0.length ≤ lo) {r0 : AV} {H0' : AHeap}
    (h : lavc Tryd.prog glob lc39 (args ++ List.replicate (104 - args.length) (.v undef)) H0 fun e t H => (e = .normal ∨ e = .ret) ∧ aret Tryd.prog t H [Go.ResultVar.tmp 2] fun r => Fin lo H r r0 H0') :
    ACall Tryd.prog glob (H0.length == 0) 39 args H0 r0 H0' := LCall' ctx Tryd.func39 (by kernel_rfl) ls39 (by kernel_rfl) (by kernel_rfl) hargs lo hlo h
/-- escutcheon/page.twice -/
def lc40 : LCode := .seq (.reg []
  [⟨some 2, .assign (.const (.bool false)), none⟩]) (.seq (.seq (.reg []
  [⟨some 5, .move (.tmp 0), none⟩,
  ⟨some 6, .call { callee := .builtin .len, args := #[.tmp 5], argTypes := #[23] }, none⟩,
  ⟨some 7, .move (.const (.int .i64 0)), none⟩]) (.block 0 (.loop (.seq (.reg []
  [⟨some 8, .binOp .lss 3 (.tmp 7) (.tmp 6) 3, none⟩]) (.seq (.cond (.tmp 8) (.skip) (.exit 0)) (.seq (.block 1 (.seq (.reg []
  [⟨some 9, .move (.tmp 7), none⟩,
  ⟨some 10, .indexAddr 23 (.tmp 5) (.tmp 7), none⟩,
  ⟨some 11, .load 9 (.tmp 10), none⟩,
  ⟨some 3, .assign (.tmp 9), none⟩,
  ⟨some 4, .assign (.tmp 11), none⟩]) (.seq (.reg []
  [⟨some 12, .move (.tmp 0), none⟩,
  ⟨some 13, .move (.tmp 3), none⟩,
  ⟨some 14, .slice 23 (.tmp 12) none (some (.tmp 13)) none, none⟩,
  ⟨some 15, .move (.tmp 4), none⟩,
  ⟨some 16, .call { callee := .value (.func 57), args := #[.tmp 14, .tmp 15], argTypes := #[23, 9] }, none⟩]) (.cond (.tmp 16) (.seq (.reg []
  [⟨some 2, .assign (.const (.bool true)), none⟩]) (.ret)) (.skip))))) (.reg []
  [⟨some 17, .binOp .add 3 (.tmp 7) (.const (.int .i64 1)) 3, none⟩,
  ⟨some 7, .move (.tmp 17), none⟩]))))))) (.seq (.reg []
  [⟨some 2, .assign (.const (.bool false)), none⟩]) (.ret)))
def ms40_0 : List Nat := [1, 2, 3, 4, 7, 8, 9, 10, 11, 12, 13, 14, 15, 16, 17]
theorem ls40 : Tryd.f40.body.map (strip Tryd.prog impCodC) = some lc40 := by kernel_rfl
theorem lcall40 {args : List AV} (hargs : args.length ≤ 18) {H0 : AHeap} (lo : Nat) (hlo : H0.length ≤ lo) {r0 : AV} {H0' : AHeap}
    (h : lavc Tryd.prog glob lc40 (args ++ List.replicate (18 - args.length) (.v undef)) H0 fun e t H => (e = .normal ∨ e = .ret) ∧ aret Tryd.prog t H [Go.ResultVar.tmp 2] fun r => Fin lo H r r0 H0') :
    ACall Tryd.prog glob (H0.length == 0) 40 args H0 r0 H0' := LCall' ctx Tryd.func40 (by kernel_rfl) ls40 (by kernel_rfl) (by kernel_rfl) hargs lo hlo h
/-- slices.Grow[[]string,string] -/
def lc41 : LCode := .seq (.reg []
  [⟨some 4, .assign (.const (.slice none 0 0)), none⟩]) (.seq (.seq (.reg []
  [⟨some 5, .move (.tmp 1), none⟩,
  ⟨some 6, .binOp .lss 3 (.tmp 5) (.const (.int .i64 0)) 3, none⟩]) (.cond (.tmp 6) (.reg []
  [⟨some 7, .makeInterface 9 (.const (.string { data := #[99, 97, 110, 110, 111, 116, 32, 98, 101, 32, 110, 101, 103, 97, 116, 105, 118, 101] })), none⟩,
  ⟨none, .panic (.tmp 7), none⟩]) (.skip))) (.seq (.seq (.reg []
  [⟨some 8, .move (.tmp 1), none⟩,
  ⟨some 9, .move (.tmp 0), none⟩,
  ⟨some 10, .call { callee := .builtin .cap, args := #[.tmp 9], argTypes := #[23] }, none⟩,
  ⟨some 11, .move (.tmp 0), none⟩,
  ⟨some 12, .call { callee := .builtin .len, args := #[.tmp 11], argTypes := #[23] }, none⟩,
  ⟨some 13, .binOp .sub 3 (.tmp 10) (.tmp 12) 3, none⟩,
  ⟨some 14, .binOp .sub 3 (.tmp 8) (.tmp 13) 3, none⟩,
  ⟨some 1, .assign (.tmp 14), none⟩]) (.seq (.reg []
  [⟨some 15, .move (.tmp 1), none⟩,
  ⟨some 16, .binOp .gtr 3 (.tmp 15) (.const (.int .i64 0)) 3, none⟩]) (.cond (.tmp 16) (.reg []
  [⟨some 17, .move (.tmp 0), none⟩,
  ⟨some 18, .move (.tmp 0), none⟩,
  ⟨some 19, .call { callee := .builtin .cap, args := #[.tmp 18], argTypes := #[23] }, none⟩,
  ⟨some 20, .slice 23 (.tmp 17) none (some (.tmp 19)) none, none⟩,
  ⟨some 21, .move (.tmp 1), none⟩,
  ⟨some 22, .call { callee := .builtin .append, args := #[.tmp 20, .tmp 21], argTypes := #[23, 3] }, none⟩,
  ⟨some 23, .move (.tmp 0), none⟩,
  ⟨some 24, .call { callee := .builtin .len, args := #[.tmp 23], argTypes := #[23] }, none⟩,
  ⟨some 25, .slice 23 (.tmp 22) none (some (.tmp 24)) none, none⟩,
  ⟨some 0, .assign (.tmp 25), none⟩]) (.skip)))) (.seq (.reg []
  [⟨some 26, .move (.tmp 0), none⟩,
  ⟨some 4, .assign (.tmp 26), none⟩]) (.ret))))
theorem ls41 : Tryd.f41.body.map (strip Tryd.prog impCodC) = some lc41 := by kernel_rfl
theorem lcall41 {args : List AV} (hargs : args.length ≤ 27) {H0 : AHeap} (lo : Nat) (hlo : H0.length ≤ lo) {r0 : AV} {H0' : AHeap}
    (h : lavc Tryd.prog glob lc41 (args ++ List.replicate (27 - args.length) (.v undef)) H0 fun e t H => (e = .normal ∨ e = .ret) ∧ aret Tryd.prog t H [Go.ResultVar.tmp 4] fun r => Fin lo H r r0 H0') :
    ACall Tryd.prog glob (H0.length == 0) 41 args H0 r0 H0' := LCall' ctx Tryd.func41 (by kernel_rfl) ls41 (by kernel_rfl) (by kernel_rfl) hargs lo hlo h
/-- (escutcheon/page.Value).Get -/
def lc44 : LCode := .seq (.reg []
  [⟨some 2, .box 26 (.tmp 0), none⟩,
  ⟨some 4, .alloc 26, none⟩,
  ⟨some 5, .assign (.const (.bool false)), none⟩]) (.seq (.reg []
  [⟨some 7, .fieldAddr 26 (.tmp 2) 2, none⟩,
  ⟨some 8, .load 23 (.tmp 7), none⟩,
  ⟨some 9, .move (.tmp 1), none⟩,
  ⟨some 10, .call { callee := .value (.func 58), args := #[.tmp 8, .tmp 9], argTypes := #[23, 9] }, none⟩,
  ⟨some 6, .assign (.tmp 10), none⟩]) (.seq (.seq (.reg []
  [⟨some 11, .fieldAddr 26 (.tmp 2) 0, none⟩,
  ⟨some 12, .load 22 (.tmp 11), none⟩,
  ⟨some 13, .binOp .neq 22 (.tmp 12) (.const (.int .i64 6)) 22, none⟩,
  ⟨some 14, .move (.tmp 13), none⟩,
  ⟨some 15, .move (.tmp 6), (some (14, false))⟩,
  ⟨some 16, .binOp .lss 3 (.tmp 15) (.const (.int .i64 0)) 3, (some (14, false))⟩,
  ⟨some 17, .pick (.tmp 14) (.const (.bool true)) (.tmp 16), none⟩,
  ⟨some 18, .move (.tmp 17), none⟩,
  ⟨some 19, .move (.tmp 6), (some (18, false))⟩,
  ⟨some 20, .fieldAddr 26 (.tmp 2) 3, (some (18, false))⟩,
  ⟨some 21, .load 24 (.tmp 20), (some (18, false))⟩,
  ⟨some 22, .call { callee := .builtin .len, args := #[.tmp 21], argTypes := #[24] }, (some (18, false))⟩,
  ⟨some 23, .binOp .geq 3 (.tmp 19) (.tmp 22) 3, (some (18, false))⟩,
  ⟨some 24, .pick (.tmp 18) (.const (.bool true)) (.tmp 23), none⟩]) (.cond (.tmp 24) (.seq (.reg []
  [⟨some 25, .build 26 #[], none⟩,
  ⟨none, .store 26 (.tmp 4) (.tmp 25), none⟩,
  ⟨some 5, .assign (.const (.bool false)), none⟩]) (.ret)) (.skip))) (.seq (.reg []
  [⟨some 26, .fieldAddr 26 (.tmp 2) 3, none⟩,
  ⟨some 27, .load 24 (.tmp 26), none⟩,
  ⟨some 28, .move (.tmp 6), none⟩,
  ⟨some 29, .indexAddr 24 (.tmp 27) (.tmp 28), none⟩,
  ⟨some 30, .load 26 (.tmp 29), none⟩,
  ⟨none, .store 26 (.tmp 4) (.tmp 30), none⟩,
  ⟨some 5, .assign (.const (.bool true)), none⟩]) (.ret))))
theorem ls44 : Tryd.f44.body.map (strip Tryd.prog impCodC) = some lc44 := by kernel_rfl
theorem lcall44 {args : List AV} (hargs : args.length ≤ 31) {H0 : AHeap} (lo : Nat) (hlo : H0.length ≤ lo) {r0 : AV} {H0' : AHeap}
    (h : lavc Tryd.prog glob lc44 (args ++ List.replicate (31 - args.length) (.v undef)) H0 fun e t H => (e = .normal ∨ e = .ret) ∧ aret Tryd.prog t H [Go.ResultVar.cell 4 26, Go.ResultVar.tmp 5] fun r => Fin lo H r r0 H0') :
    ACall Tryd.prog glob (H0.length == 0) 44 args H0 r0 H0' := LCall' ctx Tryd.func44 (by kernel_rfl) ls44 (by kernel_rfl) (by kernel_rfl) hargs lo hlo h
/-- unicode/utf8.ValidString -/
def lc54 : LCode := .seq (.reg []
  [⟨some 2, .assign (.const (.bool false)), none⟩]) (.seq (.block 0 (.loop (.seq (.seq (.reg []
  [⟨some 7, .move (.tmp 0), none⟩,
  ⟨some 8, .call { callee := .builtin .len, args := #[.tmp 7], argTypes := #[9] }, none⟩,
  ⟨some 9, .binOp .gtr 3 (.tmp 8) (.const (.int .i64 0)) 3, none⟩]) (.cond (.tmp 9) (.skip) (.exit 0))) (.block 1 (.seq (.reg []
  [⟨some 10, .move (.tmp 0), none⟩,
  ⟨some 11, .index 9 (.tmp 10) (.const (.int .i64 0)), none⟩,
  ⟨some 3, .assign (.tmp 11), none⟩]) (.seq (.seq (.reg []
  [⟨some 12, .move (.tmp 3), none⟩,
  ⟨some 13, .binOp .lss 5 (.tmp 12) (.const (.int .u8 128)) 5, none⟩]) (.cond (.tmp 13) (.seq (.reg []
  [⟨some 14, .move (.tmp 0), none⟩,
  ⟨some 15, .slice 9 (.tmp 14) (some (.const (.int .i64 1))) none none, none⟩,
  ⟨some 0, .assign (.tmp 15), none⟩]) (.seq (.seq (.reg []
  [⟨some 16, .move (.tmp 0), none⟩,
  ⟨some 17, .call { callee := .builtin .len, args := #[.tmp 16], argTypes := #[9] }, none⟩,
  ⟨some 18, .binOp .gtr 3 (.tmp 17) (.const (.int .i64 8)) 3, none⟩,
  ⟨some 19, .move (.tmp 18), none⟩,
  ⟨some 20, .move (.tmp 0), (some (19, true))⟩,
  ⟨some 21, .call { callee := .value (.func 69), args := #[.tmp 20], argTypes := #[9] }, (some (19, true))⟩,
  ⟨some 22, .binOp .and 12 (.tmp 21) (.const (.int .u64 9259542123273814144)) 12, (some (19, true))⟩,
  ⟨some 23, .binOp .eql 12 (.tmp 22) (.const (.int .u64 0)) 12, (some (19, true))⟩,
  ⟨some 24, .pick (.tmp 19) (.tmp 23) (.const (.bool false)), none⟩]) (.cond (.tmp 24) (.seq (.reg []
  [⟨some 25, .move (.tmp 0), none⟩,
  ⟨some 26, .slice 9 (.tmp 25) (some (.const (.int .i64 8))) none none, none⟩,
  ⟨some 0, .assign (.tmp 26), none⟩]) (.seq (.reg [⟨some 27, .move (.tmp 0), none⟩,
  ⟨some 28, .call { callee := .builtin .len, args := #[.tmp 27], argTypes := #[9] }, none⟩,
  ⟨some 29, .binOp .gtr 3 (.tmp 28) (.const (.int .i64 16)) 3, none⟩,
  ⟨some 30, .move (.tmp 29), none⟩,
  ⟨some 31, .move (.tmp 0), (some (30, true))⟩,
  ⟨some 32, .call { callee := .value (.func 69), args := #[.tmp 31], argTypes := #[9] }, (some (30, true))⟩,
  ⟨some 33, .move (.tmp 0), (some (30, true))⟩,
  ⟨some 34, .slice 9 (.tmp 33) (some (.const (.int .i64 8))) none none, (some (30, true))⟩,
  ⟨some 35, .call { callee := .value (.func 69), args := #[.tmp 34], argTypes := #[9] }, (some (30, true))⟩,
  ⟨some 36, .binOp .or 12 (.tmp 32) (.tmp 35) 12, (some (30, true))⟩,
  ⟨some 37, .binOp .and 12 (.tmp 36) (.const (.int .u64 9259542123273814144)) 12, (some (30, true))⟩,
  ⟨some 38, .binOp .eql 12 (.tmp 37) (.const (.int .u64 0)) 12, (some (30, true))⟩,
  ⟨some 39, .pick (.tmp 30) (.tmp 38) (.const (.bool false)), none⟩]
  []) (.cond (.tmp 39) (.seq (.reg []
  [⟨some 40, .move (.tmp 0), none⟩,
  ⟨some 41, .slice 9 (.tmp 40) (some (.const (.int .i64 16))) none none, none⟩,
  ⟨some 0, .assign (.tmp 41), none⟩]) (.block 2 (.loop (.seq (.seq (.reg [⟨some 42, .move (.tmp 0), none⟩,
  ⟨some 43, .call { callee := .builtin .len, args := #[.tmp 42], argTypes := #[9] }, none⟩,
  ⟨some 44, .binOp .gtr 3 (.tmp 43) (.const (.int .i64 32)) 3, none⟩,
  ⟨some 45, .move (.tmp 44), none⟩,
  ⟨some 46, .move (.tmp 0), (some (45, true))⟩,
  ⟨some 47, .call { callee := .value (.func 69), args := #[.tmp 46], argTypes := #[9] }, (some (45, true))⟩,
  ⟨some 48, .move (.tmp 0), (some (45, true))⟩,
  ⟨some 49, .slice 9 (.tmp 48) (some (.const (.int .i64 8))) none none, (some (45, true))⟩,
  ⟨some 50, .call { callee := .value (.func 69), args := #[.tmp 49], argTypes := #[9] }, (some (45, true))⟩,
  ⟨some 51, .binOp .or 12 (.tmp 47) (.tmp 50) 12, (some (45, true))⟩,
  ⟨some 52, .move (.tmp 0), (some (45, true))⟩,
  ⟨some 53, .slice 9 (.tmp 52) (some (.const (.int .i64 16))) none none, (some (45, true))⟩,
  ⟨some 54, .call { callee := .value (.func 69), args := #[.tmp 53], argTypes := #[9] }, (some (45, true))⟩,
  ⟨some 55, .move (.tmp 0), (some (45, true))⟩,
  ⟨some 56, .slice 9 (.tmp 55) (some (.const (.int .i64 24))) none none, (some (45, true))⟩,
  ⟨some 57, .call { callee := .value (.func 69), args := #[.tmp 56], argTypes := #[9] }, (some (45, true))⟩,
  ⟨some 58, .binOp .or 12 (.tmp 54) (.tmp 57) 12, (some (45, true))⟩,
  ⟨some 59, .binOp .or 12 (.tmp 51) (.tmp 58) 12, (some (45, true))⟩,
  ⟨some 60, .binOp .and 12 (.tmp 59) (.const (.int .u64 9259542123273814144)) 12, (some (45, true))⟩,
  ⟨some 61, .binOp .eql 12 (.tmp 60) (.const (.int .u64 0)) 12, (some (45, true))⟩,
  ⟨some 62, .pick (.tmp 45) (.tmp 61) (.const (.bool false)), none⟩]
  []) (.cond (.tmp 62) (.skip) (.exit 2))) (.block 3 (.reg []
  [⟨some 63, .move (.tmp 0), none⟩,
  ⟨some 64, .slice 9 (.tmp 63) (some (.const (.int .i64 32))) none none, none⟩,
  ⟨some 0, .assign (.tmp 64), none⟩])))))) (.skip)))) (.skip))) (.exit 1))) (.skip))) (.seq (.reg []
  [⟨some 65, .move (.tmp 3), none⟩,
  ⟨some 66, .indexAddr 115 (.global 1) (.tmp 65), none⟩,
  ⟨some 67, .load 5 (.tmp 66), none⟩,
  ⟨some 4, .assign (.tmp 67), none⟩]) (.seq (.reg []
  [⟨some 68, .move (.tmp 4), none⟩,
  ⟨some 69, .binOp .and 5 (.tmp 68) (.const (.int .u8 7)) 5, none⟩,
  ⟨some 70, .convert 5 3 (.tmp 69), none⟩,
  ⟨some 5, .assign (.tmp 70), none⟩]) (.seq (.reg []
  [⟨some 71, .move (.tmp 4), none⟩,
  ⟨some 72, .binOp .shr 5 (.tmp 71) (.const (.int .u64 4)) 97, none⟩,
  ⟨some 73, .indexAddr 118 (.global 2) (.tmp 72), none⟩,
  ⟨some 74, .load 117 (.tmp 73), none⟩,
  ⟨some 6, .alloc 117, none⟩,
  ⟨none, .store 117 (.tmp 6) (.tmp 74), none⟩]) (.seq (.reg []
  [⟨some 75, .move (.tmp 5), none⟩]) (.block 4 (.seq (.reg []
  [⟨some 77, .binOp .eql 3 (.tmp 75) (.const (.int .i64 2)) 3, none⟩,
  ⟨some 76, .assign (.tmp 77), none⟩]) (.cond (.tmp 76) (.seq (.seq (.reg [⟨some 78, .move (.tmp 0), none⟩,
  ⟨some 79, .call { callee := .builtin .len, args := #[.tmp 78], argTypes := #[9] }, none⟩,
  ⟨some 80, .binOp .lss 3 (.tmp 79) (.const (.int .i64 2)) 3, none⟩,
  ⟨some 81, .move (.tmp 80), none⟩,
  ⟨some 82, .move (.tmp 0), (some (81, false))⟩,
  ⟨some 83, .index 9 (.tmp 82) (.const (.int .i64 1)), (some (81, false))⟩,
  ⟨some 84, .fieldAddr 117 (.tmp 6) 0, (some (81, false))⟩,
  ⟨some 85, .load 5 (.tmp 84), (some (81, false))⟩,
  ⟨some 86, .binOp .lss 5 (.tmp 83) (.tmp 85) 5, (some (81, false))⟩,
  ⟨some 87, .pick (.tmp 81) (.const (.bool true)) (.tmp 86), none⟩,
  ⟨some 88, .move (.tmp 87), none⟩,
  ⟨some 89, .fieldAddr 117 (.tmp 6) 1, (some (88, false))⟩,
  ⟨some 90, .load 5 (.tmp 89), (some (88, false))⟩,
  ⟨some 91, .move (.tmp 0), (some (88, false))⟩,
  ⟨some 92, .index 9 (.tmp 91) (.const (.int .i64 1)), (some (88, false))⟩,
  ⟨some 93, .binOp .lss 5 (.tmp 90) (.tmp 92) 5, (some (88, false))⟩,
  ⟨some 94, .pick (.tmp 88) (.const (.bool true)) (.tmp 93), none⟩]
  []) (.cond (.tmp 94) (.seq (.reg []
  [⟨some 2, .assign (.const (.bool false)), none⟩]) (.ret)) (.skip))) (.reg []
  [⟨some 95, .move (.tmp 0), none⟩,
  ⟨some 96, .slice 9 (.tmp 95) (some (.const (.int .i64 2))) none none, none⟩,
  ⟨some 0, .assign (.tmp 96), none⟩])) (.seq (.reg []
  [⟨some 98, .binOp .eql 3 (.tmp 75) (.const (.int .i64 3)) 3, none⟩,
  ⟨some 97, .assign (.tmp 98), none⟩]) (.cond (.tmp 97) (.seq (.seq (.reg [⟨some 99, .move (.tmp 0), none⟩,
  ⟨some 100, .call { callee := .builtin .len, args := #[.tmp 99], argTypes := #[9] }, none⟩,
  ⟨some 101, .binOp .lss 3 (.tmp 100) (.const (.int .i64 3)) 3, none⟩,
  ⟨some 102, .move (.tmp 101), none⟩,
  ⟨some 103, .move (.tmp 0), (some (102, false))⟩,
  ⟨some 104, .index 9 (.tmp 103) (.const (.int .i64 1)), (some (102, false))⟩,
  ⟨some 105, .fieldAddr 117 (.tmp 6) 0, (some (102, false))⟩,
  ⟨some 106, .load 5 (.tmp 105), (some (102, false))⟩,
  ⟨some 107, .binOp .lss 5 (.tmp 104) (.tmp 106) 5, (some (102, false))⟩,
  ⟨some 108, .pick (.tmp 102) (.const (.bool true)) (.tmp 107), none⟩,
  ⟨some 109, .move (.tmp 108), none⟩,
  ⟨some 110, .fieldAddr 117 (.tmp 6) 1, (some (109, false))⟩,
  ⟨some 111, .load 5 (.tmp 110), (some (109, false))⟩,
  ⟨some 112, .move (.tmp 0), (some (109, false))⟩,
  ⟨some 113, .index 9 (.tmp 112) (.const (.int .i64 1)), (some (109, false))⟩,
  ⟨some 114, .binOp .lss 5 (.tmp 111) (.tmp 113) 5, (some (109, false))⟩,
  ⟨some 115, .pick (.tmp 109) (.const (.bool true)) (.tmp 114), none⟩,
  ⟨some 116, .move (.tmp 115), none⟩,
  ⟨some 117, .move (.tmp 0), (some (116, false))⟩,
  ⟨some 118, .index 9 (.tmp 117) (.const (.int .i64 2)), (some (116, false))⟩,
  ⟨some 119, .binOp .lss 5 (.tmp 118) (.const (.int .u8 128)) 5, (some (116, false))⟩,
  ⟨some 120, .pick (.tmp 116) (.const (.bool true)) (.tmp 119), none⟩,
  ⟨some 121, .move (.tmp 120), none⟩,
  ⟨some 122, .move (.tmp 0), (some (121, false))⟩,
  ⟨some 123, .index 9 (.tmp 122) (.const (.int .i64 2)), (some (121, false))⟩,
  ⟨some 124, .binOp .lss 5 (.const (.int .u8 191)) (.tmp 123) 5, (some (121, false))⟩,
  ⟨some 125, .pick (.tmp 121) (.const (.bool true)) (.tmp 124), none⟩]
  []) (.cond (.tmp 125) (.seq (.reg []
  [⟨some 2, .assign (.const (.bool false)), none⟩]) (.ret)) (.skip))) (.reg []
  [⟨some 126, .move (.tmp 0), none⟩,
  ⟨some 127, .slice 9 (.tmp 126) (some (.const (.int .i64 3))) none none, none⟩,
  ⟨some 0, .assign (.tmp 127), none⟩])) (.seq (.reg []
  [⟨some 129, .binOp .eql 3 (.tmp 75) (.const (.int .i64 4)) 3, none⟩,
  ⟨some 128, .assign (.tmp 129), none⟩]) (.cond (.tmp 128) (.seq (.seq (.reg [⟨some 130, .move (.tmp 0), none⟩,
  ⟨some 131, .call { callee := .builtin .len, args := #[.tmp 130], argTypes := #[9] }, none⟩,
  ⟨some 132, .binOp .lss 3 (.tmp 131) (.const (.int .i64 4)) 3, none⟩,
  ⟨some 133, .move (.tmp 132), none⟩,
  ⟨some 134, .move (.tmp 0), (some (133, false))⟩,
  ⟨some 135, .index 9 (.tmp 134) (.const (.int .i64 1)), (some (133, false))⟩,
  ⟨some 136, .fieldAddr 117 (.tmp 6) 0, (some (133, false))⟩,
  ⟨some 137, .load 5 (.tmp 136), (some (133, false))⟩,
  ⟨some 138, .binOp .lss 5 (.tmp 135) (.tmp 137) 5, (some (133, false))⟩,
  ⟨some 139, .pick (.tmp 133) (.const (.bool true)) (.tmp 138), none⟩,
  ⟨some 140, .move (.tmp 139), none⟩,
  ⟨some 141, .fieldAddr 117 (.tmp 6) 1, (some (140, false))⟩,
  ⟨some 142, .load 5 (.tmp 141), (some (140, false))⟩,
  ⟨some 143, .move (.tmp 0), (some (140, false))⟩,
  ⟨some 144, .index 9 (.tmp 143) (.const (.int .i64 1)), (some (140, false))⟩,
  ⟨some 145, .binOp .lss 5 (.tmp 142) (.tmp 144) 5, (some (140, false))⟩,
  ⟨some 146, .pick (.tmp 140) (.const (.bool true)) (.tmp 145), none⟩,
  ⟨some 147, .move (.tmp 146), none⟩,
  ⟨some 148, .move (.tmp 0), (some (147, false))⟩,
  ⟨some 149, .index 9 (.tmp 148) (.const (.int .i64 2)), (some (147, false))⟩,
  ⟨some 150, .binOp .lss 5 (.tmp 149) (.const (.int .u8 128)) 5, (some (147, false))⟩,
  ⟨some 151, .pick (.tmp 147) (.const (.bool true)) (.tmp 150), none⟩,
  ⟨some 152, .move (.tmp 151), none⟩,
  ⟨some 153, .move (.tmp 0), (some (152, false))⟩,
  ⟨some 154, .index 9 (.tmp 153) (.const (.int .i64 2)), (some (152, false))⟩,
  ⟨some 155, .binOp .lss 5 (.const (.int .u8 191)) (.tmp 154) 5, (some (152, false))⟩,
  ⟨some 156, .pick (.tmp 152) (.const (.bool true)) (.tmp 155), none⟩,
  ⟨some 157, .move (.tmp 156), none⟩,
  ⟨some 158, .move (.tmp 0), (some (157, false))⟩,
  ⟨some 159, .index 9 (.tmp 158) (.const (.int .i64 3)), (some (157, false))⟩,
  ⟨some 160, .binOp .lss 5 (.tmp 159) (.const (.int .u8 128)) 5, (some (157, false))⟩,
  ⟨some 161, .pick (.tmp 157) (.const (.bool true)) (.tmp 160), none⟩,
  ⟨some 162, .move (.tmp 161), none⟩,
  ⟨some 163, .move (.tmp 0), (some (162, false))⟩,
  ⟨some 164, .index 9 (.tmp 163) (.const (.int .i64 3)), (some (162, false))⟩,
  ⟨some 165, .binOp .lss 5 (.const (.int .u8 191)) (.tmp 164) 5, (some (162, false))⟩,
  ⟨some 166, .pick (.tmp 162) (.const (.bool true)) (.tmp 165), none⟩]
  []) (.cond (.tmp 166) (.seq (.reg []
  [⟨some 2, .assign (.const (.bool false)), none⟩]) (.ret)) (.skip))) (.reg []
  [⟨some 167, .move (.tmp 0), none⟩,
  ⟨some 168, .slice 9 (.tmp 167) (some (.const (.int .i64 4))) none none, none⟩,
  ⟨some 0, .assign (.tmp 168), none⟩])) (.seq (.reg []
  [⟨some 2, .assign (.const (.bool false)), none⟩]) (.ret))))))))))))))))))) (.seq (.reg []
  [⟨some 2, .assign (.const (.bool true)), none⟩]) (.ret)))
def ms54_0 : List Nat := [0, 1, 2, 3, 4, 5, 6, 7, 8, 9, 10, 11, 12, 13, 14, 15, 16, 17, 18, 19, 20, 21, 22, 23, 24, 25, 26, 27, 28, 29, 30, 31, 32, 33, 34, 35, 36, 37, 38, 39, 40, 41, 42, 43, 44, 45, 46, 47, 48, 49, 50, 51, 52, 53, 54, 55, 56, 57, 58, 59, 60, 61, 62, 63, 64, 65, 66, 67, 68, 69, 70, 71, 72, 73, 74, 75, 76, 77, 78, 79, 80, 81, 82, 83, 84, 85, 86, 87, 88, 89, 90, 91, 92, 93, 94, 95, 96, 97, 98, 99, 100, 101, 102, 103, 104, 105, 106, 107, 108, 109, 110, 111, 112, 113, 114, 115, 116, 117, 118, 119, 120, 121, 122, 123, 124, 125, 126, 127, 128, 129, 130, 131, 132, 133, 134, 135, 136, 137, 138, 139, 140, 141, 142, 143, 144, 145, 146, 147, 148, 149, 150, 151, 152, 153, 154, 155, 156, 157, 158, 159, 160, 161, 162, 163, 164, 165, 166, 167, 168]
def ms54_1 : List Nat := [0, 1, 42, 43, 44, 45, 46, 47, 48, 49, 50, 51, 52, 53, 54, 55, 56, 57, 58, 59, 60, 61, 62, 63, 64]
theorem ls54 : Tryd.f54.body.map (strip Tryd.prog impCodC) = some lc54 := by kernel_rfl
theorem lcall54 {args : List AV} (hargs : args.length ≤ 169) {H0 : AHeap} (lo : Nat) (hlo : H0.length ≤ lo) {r0 : AV} {H0' : AHeap}
    (h : lavc Tryd.prog glob lc54 (args ++ List.replicate (169 - args.length) (.v undef)) H0 fun e t H => (e = .normal ∨ e = .ret) ∧ aret Tryd.prog t H [Go.ResultVar.tmp 2] fun r => Fin lo H r r0 H0') :
    ACall Tryd.prog glob (H0.length == 0) 54 args H0 r0 H0' := LCall' ctx Tryd.func54 (by kernel_rfl) ls54 (by kernel_rfl) (by kernel_rfl) hargs lo hlo h
/-- slices.ContainsFunc[[]string,string] -/
def lc55 : LCode := .seq (.reg []
  [⟨some 4, .assign (.const (.bool false)), none⟩]) (.seq (.reg []
  [⟨some 5, .move (.tmp 0), none⟩,
  ⟨some 6, .move (.tmp 1), none⟩,
  ⟨some 7, .call { callee := .value (.func 70), args := #[.tmp 5, .tmp 6], argTypes := #[23, 103] }, none⟩,
  ⟨some 8, .binOp .geq 3 (.tmp 7) (.const (.int .i64 0)) 3, none⟩,
  ⟨some 4, .assign (.tmp 8), none⟩]) (.ret))
theorem ls55 : Tryd.f55.body.map (strip Tryd.prog impCodC) = some lc55 := by kernel_rfl
theorem lcall55 {args : List AV} (hargs : args.length ≤ 9) {H0 : AHeap} (lo : Nat) (hlo : H0.length ≤ lo) {r0 : AV} {H0' : AHeap}
    (h : lavc Tryd.prog glob lc55 (args ++ List.replicate (9 - args.length) (.v undef)) H0 fun e t H => (e = .normal ∨ e = .ret) ∧ aret Tryd.prog t H [Go.ResultVar.tmp 4] fun r => Fin lo H r r0 H0') :
    ACall Tryd.prog glob (H0.length == 0) 55 args H0 r0 H0' := LCall' ctx Tryd.func55 (by kernel_rfl) ls55 (by kernel_rfl) (by kernel_rfl) hargs lo hlo h
/-- (escutcheon/page.Value).form$1 -/
def lc56 : LCode := .seq (.reg []
  [⟨some 2, .assign (.const (.bool false)), none⟩]) (.seq (.reg []
  [⟨some 3, .move (.tmp 0), none⟩,
  ⟨some 4, .call { callee := .value (.func 54), args := #[.tmp 3], argTypes := #[9] }, none⟩,
  ⟨some 5, .unOp .not 4 (.tmp 4), none⟩,
  ⟨some 2, .assign (.tmp 5), none⟩]) (.ret))
theorem ls56 : Tryd.f56.body.map (strip Tryd.prog impCodC) = some lc56 := by kernel_rfl
theorem lcall56 {args : List AV} (hargs : args.length ≤ 6) {H0 : AHeap} (lo : Nat) (hlo : H0.length ≤ lo) {r0 : AV} {H0' : AHeap}
    (h : lavc Tryd.prog glob lc56 (args ++ List.replicate (6 - args.length) (.v undef)) H0 fun e t H => (e = .normal ∨ e = .ret) ∧ aret Tryd.prog t H [Go.ResultVar.tmp 2] fun r => Fin lo H r r0 H0') :
    ACall Tryd.prog glob (H0.length == 0) 56 args H0 r0 H0' := LCall' ctx Tryd.func56 (by kernel_rfl) ls56 (by kernel_rfl) (by kernel_rfl) hargs lo hlo h
/-- slices.Contains[[]string,string] -/
def lc57 : LCode := .seq (.reg []
  [⟨some 4, .assign (.const (.bool false)), none⟩]) (.seq (.reg []
  [⟨some 5, .move (.tmp 0), none⟩,
  ⟨some 6, .move (.tmp 1), none⟩,
  ⟨some 7, .call { callee := .value (.func 58), args := #[.tmp 5, .tmp 6], argTypes := #[23, 9] }, none⟩,
  ⟨some 8, .binOp .geq 3 (.tmp 7) (.const (.int .i64 0)) 3, none⟩,
  ⟨some 4, .assign (.tmp 8), none⟩]) (.ret))
theorem ls57 : Tryd.f57.body.map (strip Tryd.prog impCodC) = some lc57 := by kernel_rfl
theorem lcall57 {args : List AV} (hargs : args.length ≤ 9) {H0 : AHeap} (lo : Nat) (hlo : H0.length ≤ lo) {r0 : AV} {H0' : AHeap}
    (h : lavc Tryd.prog glob lc57 (args ++ List.replicate (9 - args.length) (.v undef)) H0 fun e t H => (e = .normal ∨ e = .ret) ∧ aret Tryd.prog t H [Go.ResultVar.tmp 4] fun r => Fin lo H r r0 H0') :
    ACall Tryd.prog glob (H0.length == 0) 57 args H0 r0 H0' := LCall' ctx Tryd.func57 (by kernel_rfl) ls57 (by kernel_rfl) (by kernel_rfl) hargs lo hlo h
/-- slices.Index[[]string,string] -/
def lc58 : LCode := .seq (.reg []
  [⟨some 4, .assign (.const (.int .i64 0)), none⟩]) (.seq (.seq (.reg []
  [⟨some 6, .move (.tmp 0), none⟩,
  ⟨some 7, .call { callee := .builtin .len, args := #[.tmp 6], argTypes := #[23] }, none⟩,
  ⟨some 8, .move (.const (.int .i64 0)), none⟩]) (.block 0 (.loop (.seq (.reg []
  [⟨some 9, .binOp .lss 3 (.tmp 8) (.tmp 7) 3, none⟩]) (.seq (.cond (.tmp 9) (.skip) (.exit 0)) (.seq (.block 1 (.seq (.reg []
  [⟨some 10, .move (.tmp 8), none⟩,
  ⟨some 5, .assign (.tmp 10), none⟩]) (.seq (.reg []
  [⟨some 11, .move (.tmp 1), none⟩,
  ⟨some 12, .move (.tmp 0), none⟩,
  ⟨some 13, .move (.tmp 5), none⟩,
  ⟨some 14, .indexAddr 23 (.tmp 12) (.tmp 13), none⟩,
  ⟨some 15, .load 9 (.tmp 14), none⟩,
  ⟨some 16, .binOp .eql 9 (.tmp 11) (.tmp 15) 9, none⟩]) (.cond (.tmp 16) (.seq (.reg []
  [⟨some 17, .move (.tmp 5), none⟩,
  ⟨some 4, .assign (.tmp 17), none⟩]) (.ret)) (.skip))))) (.reg []
  [⟨some 18, .binOp .add 3 (.tmp 8) (.const (.int .i64 1)) 3, none⟩,
  ⟨some 8, .move (.tmp 18), none⟩]))))))) (.seq (.reg []
  [⟨some 4, .assign (.const (.int .i64 (-1))), none⟩]) (.ret)))
def ms58_0 : List Nat := [2, 3, 4, 5, 6, 8, 9, 10, 11, 12, 13, 14, 15, 16, 17, 18]
theorem ls58 : Tryd.f58.body.map (strip Tryd.prog impCodC) = some lc58 := by kernel_rfl
theorem lcall58 {args : List AV} (hargs : args.length ≤ 19) {H0 : AHeap} (lo : Nat) (hlo : H0.length ≤ lo) {r0 : AV} {H0' : AHeap}
    (h : lavc Tryd.prog glob lc58 (args ++ List.replicate (19 - args.length) (.v undef)) H0 fun e t H => (e = .normal ∨ e = .ret) ∧ aret Tryd.prog t H [Go.ResultVar.tmp 4] fun r => Fin lo H r r0 H0') :
    ACall Tryd.prog glob (H0.length == 0) 58 args H0 r0 H0' := LCall' ctx Tryd.func58 (by kernel_rfl) ls58 (by kernel_rfl) (by kernel_rfl) hargs lo hlo h
/-- unicode/utf8.word[string] -/
def lc69 : LCode := .seq (.reg []
  [⟨some 2, .assign (.const (.int .u64 0)), none⟩]) (.seq (.cond (.const (.bool false)) (.seq (.reg [⟨some 3, .move (.tmp 0), none⟩,
  ⟨some 4, .index 9 (.tmp 3) (.const (.int .i64 0)), none⟩,
  ⟨some 5, .convert 5 12 (.tmp 4), none⟩,
  ⟨some 6, .move (.tmp 0), none⟩,
  ⟨some 7, .index 9 (.tmp 6) (.const (.int .i64 1)), none⟩,
  ⟨some 8, .convert 5 12 (.tmp 7), none⟩,
  ⟨some 9, .binOp .shl 12 (.tmp 8) (.const (.int .u64 8)) 97, none⟩,
  ⟨some 10, .binOp .or 12 (.tmp 5) (.tmp 9) 12, none⟩,
  ⟨some 11, .move (.tmp 0), none⟩,
  ⟨some 12, .index 9 (.tmp 11) (.const (.int .i64 2)), none⟩,
  ⟨some 13, .convert 5 12 (.tmp 12), none⟩,
  ⟨some 14, .binOp .shl 12 (.tmp 13) (.const (.int .u64 16)) 97, none⟩,
  ⟨some 15, .binOp .or 12 (.tmp 10) (.tmp 14) 12, none⟩,
  ⟨some 16, .move (.tmp 0), none⟩,
  ⟨some 17, .index 9 (.tmp 16) (.const (.int .i64 3)), none⟩,
  ⟨some 18, .convert 5 12 (.tmp 17), none⟩,
  ⟨some 19, .binOp .shl 12 (.tmp 18) (.const (.int .u64 24)) 97, none⟩,
  ⟨some 20, .binOp .or 12 (.tmp 15) (.tmp 19) 12, none⟩,
  ⟨some 2, .assign (.tmp 20), none⟩]
  []) (.ret)) (.skip)) (.seq (.reg [⟨some 21, .move (.tmp 0), none⟩,
  ⟨some 22, .index 9 (.tmp 21) (.const (.int .i64 0)), none⟩,
  ⟨some 23, .convert 5 111 (.tmp 22), none⟩,
  ⟨some 24, .move (.tmp 0), none⟩,
  ⟨some 25, .index 9 (.tmp 24) (.const (.int .i64 1)), none⟩,
  ⟨some 26, .convert 5 111 (.tmp 25), none⟩,
  ⟨some 27, .binOp .shl 111 (.tmp 26) (.const (.int .u64 8)) 97, none⟩,
  ⟨some 28, .binOp .or 111 (.tmp 23) (.tmp 27) 111, none⟩,
  ⟨some 29, .move (.tmp 0), none⟩,
  ⟨some 30, .index 9 (.tmp 29) (.const (.int .i64 2)), none⟩,
  ⟨some 31, .convert 5 111 (.tmp 30), none⟩,
  ⟨some 32, .binOp .shl 111 (.tmp 31) (.const (.int .u64 16)) 97, none⟩,
  ⟨some 33, .binOp .or 111 (.tmp 28) (.tmp 32) 111, none⟩,
  ⟨some 34, .move (.tmp 0), none⟩,
  ⟨some 35, .index 9 (.tmp 34) (.const (.int .i64 3)), none⟩,
  ⟨some 36, .convert 5 111 (.tmp 35), none⟩,
  ⟨some 37, .binOp .shl 111 (.tmp 36) (.const (.int .u64 24)) 97, none⟩,
  ⟨some 38, .binOp .or 111 (.tmp 33) (.tmp 37) 111, none⟩,
  ⟨some 39, .move (.tmp 0), none⟩,
  ⟨some 40, .index 9 (.tmp 39) (.const (.int .i64 4)), none⟩,
  ⟨some 41, .convert 5 111 (.tmp 40), none⟩,
  ⟨some 42, .binOp .shl 111 (.tmp 41) (.const (.int .u64 32)) 97, none⟩,
  ⟨some 43, .binOp .or 111 (.tmp 38) (.tmp 42) 111, none⟩,
  ⟨some 44, .move (.tmp 0), none⟩,
  ⟨some 45, .index 9 (.tmp 44) (.const (.int .i64 5)), none⟩,
  ⟨some 46, .convert 5 111 (.tmp 45), none⟩,
  ⟨some 47, .binOp .shl 111 (.tmp 46) (.const (.int .u64 40)) 97, none⟩,
  ⟨some 48, .binOp .or 111 (.tmp 43) (.tmp 47) 111, none⟩,
  ⟨some 49, .move (.tmp 0), none⟩,
  ⟨some 50, .index 9 (.tmp 49) (.const (.int .i64 6)), none⟩,
  ⟨some 51, .convert 5 111 (.tmp 50), none⟩,
  ⟨some 52, .binOp .shl 111 (.tmp 51) (.const (.int .u64 48)) 97, none⟩,
  ⟨some 53, .binOp .or 111 (.tmp 48) (.tmp 52) 111, none⟩,
  ⟨some 54, .move (.tmp 0), none⟩,
  ⟨some 55, .index 9 (.tmp 54) (.const (.int .i64 7)), none⟩,
  ⟨some 56, .convert 5 111 (.tmp 55), none⟩,
  ⟨some 57, .binOp .shl 111 (.tmp 56) (.const (.int .u64 56)) 97, none⟩,
  ⟨some 58, .binOp .or 111 (.tmp 53) (.tmp 57) 111, none⟩,
  ⟨some 2, .assign (.tmp 58), none⟩]
  []) (.ret)))
theorem ls69 : Tryd.f69.body.map (strip Tryd.prog impCodC) = some lc69 := by kernel_rfl
theorem lcall69 {args : List AV} (hargs : args.length ≤ 59) {H0 : AHeap} (lo : Nat) (hlo : H0.length ≤ lo) {r0 : AV} {H0' : AHeap}
    (h : lavc Tryd.prog glob lc69 (args ++ List.replicate (59 - args.length) (.v undef)) H0 fun e t H => (e = .normal ∨ e = .ret) ∧ aret Tryd.prog t H [Go.ResultVar.tmp 2] fun r => Fin lo H r r0 H0') :
    ACall Tryd.prog glob (H0.length == 0) 69 args H0 r0 H0' := LCall' ctx Tryd.func69 (by kernel_rfl) ls69 (by kernel_rfl) (by kernel_rfl) hargs lo hlo h
/-- slices.IndexFunc[[]string,string] -/
def lc70 : LCode := .seq (.reg []
  [⟨some 4, .assign (.const (.int .i64 0)), none⟩]) (.seq (.seq (.reg []
  [⟨some 6, .move (.tmp 0), none⟩,
  ⟨some 7, .call { callee := .builtin .len, args := #[.tmp 6], argTypes := #[23] }, none⟩,
  ⟨some 8, .move (.const (.int .i64 0)), none⟩]) (.block 0 (.loop (.seq (.reg []
  [⟨some 9, .binOp .lss 3 (.tmp 8) (.tmp 7) 3, none⟩]) (.seq (.cond (.tmp 9) (.skip) (.exit 0)) (.seq (.block 1 (.seq (.reg []
  [⟨some 10, .move (.tmp 8), none⟩,
  ⟨some 5, .assign (.tmp 10), none⟩]) (.seq (.reg []
  [⟨some 11, .move (.tmp 1), none⟩,
  ⟨some 12, .move (.tmp 0), none⟩,
  ⟨some 13, .move (.tmp 5), none⟩,
  ⟨some 14, .indexAddr 23 (.tmp 12) (.tmp 13), none⟩,
  ⟨some 15, .load 9 (.tmp 14), none⟩,
  ⟨some 16, .call { callee := .value (.tmp 11), args := #[.tmp 15], argTypes := #[9] }, none⟩]) (.cond (.tmp 16) (.seq (.reg []
  [⟨some 17, .move (.tmp 5), none⟩,
  ⟨some 4, .assign (.tmp 17), none⟩]) (.ret)) (.skip))))) (.reg []
  [⟨some 18, .binOp .add 3 (.tmp 8) (.const (.int .i64 1)) 3, none⟩,
  ⟨some 8, .move (.tmp 18), none⟩]))))))) (.seq (.reg []
  [⟨some 4, .assign (.const (.int .i64 (-1))), none⟩]) (.ret)))
def ms70_0 : List Nat := [2, 3, 4, 5, 6, 8, 9, 10, 11, 12, 13, 14, 15, 16, 17, 18]
theorem ls70 : Tryd.f70.body.map (strip Tryd.prog impCodC) = some lc70 := by kernel_rfl
theorem lcall70 {args : List AV} (hargs : args.length ≤ 19) {H0 : AHeap} (lo : Nat) (hlo : H0.length ≤ lo) {r0 : AV} {H0' : AHeap}
    (h : lavc Tryd.prog glob lc70 (args ++ List.replicate (19 - args.length) (.v undef)) H0 fun e t H => (e = .normal ∨ e = .ret) ∧ aret Tryd.prog t H [Go.ResultVar.tmp 4] fun r => Fin lo H r r0 H0') :
    ACall Tryd.prog glob (H0.length == 0) 70 args H0 r0 H0' := LCall' ctx Tryd.func70 (by kernel_rfl) ls70 (by kernel_rfl) (by kernel_rfl) hargs lo hlo h
/-- slices.Concat[[]string,string] -/
def lc25 : LCode := .seq (.reg []
  [⟨some 2, .assign (.const (.slice none 0 0)), none⟩]) (.seq (.reg []
  [⟨some 3, .assign (.const (.int .i64 0)), none⟩]) (.seq (.seq (.reg []
  [⟨some 9, .move (.tmp 0), none⟩,
  ⟨some 10, .call { callee := .builtin .len, args := #[.tmp 9], argTypes := #[88] }, none⟩,
  ⟨some 11, .move (.const (.int .i64 0)), none⟩]) (.block 0 (.loop (.seq (.reg []
  [⟨some 12, .binOp .lss 3 (.tmp 11) (.tmp 10) 3, none⟩]) (.seq (.cond (.tmp 12) (.skip) (.exit 0)) (.seq (.block 1 (.seq (.reg []
  [⟨some 13, .indexAddr 88 (.tmp 9) (.tmp 11), none⟩,
  ⟨some 14, .load 23 (.tmp 13), none⟩,
  ⟨some 5, .assign (.tmp 14), none⟩]) (.seq (.reg []
  [⟨some 15, .move (.tmp 3), none⟩,
  ⟨some 16, .move (.tmp 5), none⟩,
  ⟨some 17, .call { callee := .builtin .len, args := #[.tmp 16], argTypes := #[23] }, none⟩,
  ⟨some 18, .binOp .add 3 (.tmp 15) (.tmp 17) 3, none⟩,
  ⟨some 3, .assign (.tmp 18), none⟩]) (.seq (.reg []
  [⟨some 19, .move (.tmp 3), none⟩,
  ⟨some 20, .binOp .lss 3 (.tmp 19) (.const (.int .i64 0)) 3, none⟩]) (.cond (.tmp 20) (.reg []
  [⟨some 21, .makeInterface 9 (.const (.string { data := #[108, 101, 110, 32, 111, 117, 116, 32, 111, 102, 32, 114, 97, 110, 103, 101] })), none⟩,
  ⟨none, .panic (.tmp 21), none⟩]) (.skip)))))) (.reg []
  [⟨some 22, .binOp .add 3 (.tmp 11) (.const (.int .i64 1)) 3, none⟩,
  ⟨some 11, .move (.tmp 22), none⟩]))))))) (.seq (.reg []
  [⟨some 23, .move (.tmp 3), none⟩,
  ⟨some 24, .call { callee := .value (.func 41), args := #[.const (.slice none 0 0), .tmp 23], argTypes := #[23, 3] }, none⟩,
  ⟨some 6, .assign (.tmp 24), none⟩]) (.seq (.seq (.reg []
  [⟨some 25, .move (.tmp 0), none⟩,
  ⟨some 26, .call { callee := .builtin .len, args := #[.tmp 25], argTypes := #[88] }, none⟩,
  ⟨some 27, .move (.const (.int .i64 0)), none⟩]) (.block 2 (.loop (.seq (.reg []
  [⟨some 28, .binOp .lss 3 (.tmp 27) (.tmp 26) 3, none⟩]) (.seq (.cond (.tmp 28) (.skip) (.exit 2)) (.seq (.block 3 (.seq (.reg []
  [⟨some 29, .indexAddr 88 (.tmp 25) (.tmp 27), none⟩,
  ⟨some 30, .load 23 (.tmp 29), none⟩,
  ⟨some 8, .assign (.tmp 30), none⟩]) (.reg []
  [⟨some 31, .move (.tmp 6), none⟩,
  ⟨some 32, .move (.tmp 8), none⟩,
  ⟨some 33, .call { callee := .builtin .append, args := #[.tmp 31, .tmp 32], argTypes := #[23, 23] }, none⟩,
  ⟨some 6, .assign (.tmp 33), none⟩]))) (.reg []
  [⟨some 34, .binOp .add 3 (.tmp 27) (.const (.int .i64 1)) 3, none⟩,
  ⟨some 27, .move (.tmp 34), none⟩]))))))) (.seq (.reg []
  [⟨some 35, .move (.tmp 6), none⟩,
  ⟨some 2, .assign (.tmp 35), none⟩]) (.ret))))))
def ms25_0 : List Nat := [1, 3, 4, 5, 7, 11, 12, 13, 14, 15, 16, 17, 18, 19, 20, 21, 22]
def ms25_1 : List Nat := [0, 1, 3, 4, 5, 6, 7, 8, 9, 10, 11, 12, 13, 14, 15, 16, 17, 18, 19, 20, 21, 22, 23, 24, 27, 28, 29, 30, 31, 32, 33, 34]
theorem ls25 : Tryd.f25.body.map (strip Tryd.prog impCodC) = some lc25 := by kernel_rfl
theorem lcall25 {args : List AV} (hargs : args.length ≤ 36) {H0 : AHeap} (lo : Nat) (hlo : H0.length ≤ lo) {r0 : AV} {H0' : AHeap}
    (h : lavc Tryd.prog glob lc25 (args ++ List.replicate (36 - args.length) (.v undef)) H0 fun e t H => (e = .normal ∨ e = .ret) ∧ aret Tryd.prog t H [Go.ResultVar.tmp 2] fun r => Fin lo H r r0 H0') :
    ACall Tryd.prog glob (H0.length == 0) 25 args H0 r0 H0' := LCall' ctx Tryd.func25 (by kernel_rfl) ls25 (by kernel_rfl) (by kernel_rfl) hargs lo hlo h
end Go.Abs.S
