/- Code, as it is looked at; written by wip/leancode.py. -/
import Derived.Test.YtgmchiadphdlhaaDoorAbsSeat
namespace Go.Abs.S
open Go.Proofs
set_option maxRecDepth 100000
def impCodA : FuncId → Bool := fun f => f == 20 || f == 22 || f == 35 || f == 51 || f == 67
/-- escutcheon/hour.Text -/
def lc9 : LCode := .seq (.reg []
  [⟨some 2, .assign (.const (.string { data := #[] })), none⟩,
  ⟨some 3, .assign (.const (.int .i64 0)), none⟩]) (.seq (.seq (.reg []
  [⟨some 8, .move (.tmp 0), none⟩,
  ⟨some 9, .call { callee := .value (.func 18), args := #[.tmp 8], argTypes := #[3] }, none⟩,
  ⟨some 10, .unOp .not 4 (.tmp 9), none⟩]) (.cond (.tmp 10) (.seq (.reg []
  [⟨some 2, .assign (.const (.string { data := #[] })), none⟩,
  ⟨some 3, .assign (.const (.int .i64 12)), none⟩]) (.ret)) (.skip))) (.seq (.reg []
  [⟨some 11, .move (.tmp 0), none⟩,
  ⟨some 12, .call { callee := .value (.func 19), args := #[.tmp 11], argTypes := #[3] }, none⟩,
  ⟨some 4, .alloc 58, none⟩,
  ⟨none, .store 58 (.tmp 4) (.tmp 12), none⟩]) (.seq (.reg []
  [⟨some 5, .alloc 63, none⟩]) (.seq (.reg []
  [⟨some 13, .fieldAddr 58 (.tmp 4) 0, none⟩,
  ⟨some 14, .fieldAddr 56 (.tmp 13) 0, none⟩,
  ⟨some 15, .load 3 (.tmp 14), none⟩,
  ⟨some 16, .call { callee := .value (.func 21), args := #[.tmp 15, .const (.int .i64 4)], argTypes := #[3, 3] }, none⟩,
  ⟨some 17, .call { callee := .value (.func 20), args := #[.tmp 5, .tmp 16], argTypes := #[63, 9] }, none⟩]) (.seq (.seq (.reg []
  [⟨some 18, .fieldAddr 58 (.tmp 4) 0, none⟩,
  ⟨some 19, .fieldAddr 56 (.tmp 18) 1, none⟩,
  ⟨some 20, .load 3 (.tmp 19), none⟩,
  ⟨some 21, .fieldAddr 58 (.tmp 4) 0, none⟩,
  ⟨some 22, .fieldAddr 56 (.tmp 21) 2, none⟩,
  ⟨some 23, .load 3 (.tmp 22), none⟩,
  ⟨some 24, .fieldAddr 58 (.tmp 4) 1, none⟩,
  ⟨some 25, .load 3 (.tmp 24), none⟩,
  ⟨some 26, .fieldAddr 58 (.tmp 4) 2, none⟩,
  ⟨some 27, .load 3 (.tmp 26), none⟩,
  ⟨some 28, .fieldAddr 58 (.tmp 4) 3, none⟩,
  ⟨some 29, .load 3 (.tmp 28), none⟩,
  ⟨some 30, .build 69 #[(0, .tmp 20), (1, .tmp 23), (2, .tmp 25), (3, .tmp 27), (4, .tmp 29)], none⟩,
  ⟨some 31, .move (.const (.int .i64 0)), none⟩]) (.block 0 (.loop (.seq (.reg []
  [⟨some 32, .binOp .lss 3 (.tmp 31) (.const (.int .i64 5)) 3, none⟩]) (.seq (.cond (.tmp 32) (.skip) (.exit 0)) (.seq (.block 1 (.seq (.reg []
  [⟨some 33, .move (.tmp 31), none⟩,
  ⟨some 34, .index 69 (.tmp 30) (.tmp 31), none⟩,
  ⟨some 6, .assign (.tmp 33), none⟩,
  ⟨some 7, .assign (.tmp 34), none⟩]) (.reg [⟨some 35, .move (.tmp 6), none⟩,
  ⟨some 36, .move (.tmp 6), none⟩,
  ⟨some 37, .binOp .add 3 (.tmp 36) (.const (.int .i64 1)) 3, none⟩,
  ⟨some 38, .slice 9 (.const (.string { data := #[45, 45, 84, 58, 58] })) (some (.tmp 35)) (some (.tmp 37)) none, none⟩,
  ⟨some 39, .move (.tmp 7), none⟩,
  ⟨some 40, .call { callee := .value (.func 21), args := #[.tmp 39, .const (.int .i64 2)], argTypes := #[3, 3] }, none⟩,
  ⟨some 41, .binOp .add 9 (.tmp 38) (.tmp 40) 9, none⟩]
  [⟨some 42, .call { callee := .value (.func 20), args := #[.tmp 5, .tmp 41], argTypes := #[63, 9] }, none⟩]))) (.reg []
  [⟨some 43, .binOp .add 3 (.tmp 31) (.const (.int .i64 1)) 3, none⟩,
  ⟨some 31, .move (.tmp 43), none⟩]))))))) (.seq (.reg []
  [⟨some 44, .call { callee := .value (.func 22), args := #[.tmp 5], argTypes := #[63] }, none⟩,
  ⟨some 45, .binOp .add 9 (.tmp 44) (.const (.string { data := #[90] })) 9, none⟩,
  ⟨some 2, .assign (.tmp 45), none⟩,
  ⟨some 3, .assign (.const (.int .i64 0)), none⟩]) (.ret)))))))
def ms9_0 : List Nat := [0, 1, 4, 6, 7, 8, 9, 10, 11, 12, 13, 14, 15, 16, 17, 18, 19, 20, 21, 22, 23, 24, 25, 26, 27, 28, 29, 31, 32, 33, 34, 35, 36, 37, 38, 39, 40, 41, 42, 43]
theorem ls9 : Tryd.f9.body.map (strip Tryd.prog impCodA) = some lc9 := by kernel_rfl
theorem lcall9 {args : List AV} (hargs : args.length ≤ 46) {H0 : AHeap} (lo : Nat) (hlo : H0.length ≤ lo) {r0 : AV} {H0' : AHeap}
    (h : lavc Tryd.prog glob lc9 (args ++ List.replicate (46 - args.length) (.v undef)) H0 fun e t H => (e = .normal ∨ e = .ret) ∧ aret Tryd.prog t H [Go.ResultVar.tmp 2, Go.ResultVar.tmp 3] fun r => Fin lo H r r0 H0') :
    ACall Tryd.prog glob (H0.length == 0) 9 args H0 r0 H0' := LCall' ctx Tryd.func9 (by kernel_rfl) ls9 (by kernel_rfl) (by kernel_rfl) hargs lo hlo h
/-- escutcheon/hour.time -/
def lc18 : LCode := .seq (.reg []
  [⟨some 2, .assign (.const (.bool false)), none⟩]) (.seq (.reg []
  [⟨some 3, .move (.tmp 0), none⟩,
  ⟨some 4, .call { callee := .value (.func 31), args := #[], argTypes := #[] }, none⟩,
  ⟨some 5, .binOp .geq 3 (.tmp 3) (.tmp 4) 3, none⟩,
  ⟨some 6, .move (.tmp 5), none⟩,
  ⟨some 7, .move (.tmp 0), (some (6, true))⟩,
  ⟨some 8, .call { callee := .value (.func 32), args := #[], argTypes := #[] }, (some (6, true))⟩,
  ⟨some 9, .binOp .leq 3 (.tmp 7) (.tmp 8) 3, (some (6, true))⟩,
  ⟨some 10, .pick (.tmp 6) (.tmp 9) (.const (.bool false)), none⟩,
  ⟨some 2, .assign (.tmp 10), none⟩]) (.ret))
theorem ls18 : Tryd.f18.body.map (strip Tryd.prog impCodA) = some lc18 := by kernel_rfl
theorem lcall18 {args : List AV} (hargs : args.length ≤ 11) {H0 : AHeap} (lo : Nat) (hlo : H0.length ≤ lo) {r0 : AV} {H0' : AHeap}
    (h : lavc Tryd.prog glob lc18 (args ++ List.replicate (11 - args.length) (.v undef)) H0 fun e t H => (e = .normal ∨ e = .ret) ∧ aret Tryd.prog t H [Go.ResultVar.tmp 2] fun r => Fin lo H r r0 H0') :
    ACall Tryd.prog glob (H0.length == 0) 18 args H0 r0 H0' := LCall' ctx Tryd.func18 (by kernel_rfl) ls18 (by kernel_rfl) (by kernel_rfl) hargs lo hlo h
/-- escutcheon/hour.of -/
def lc19 : LCode := .seq (.reg []
  [⟨some 2, .alloc 58, none⟩]) (.seq (.reg []
  [⟨some 4, .move (.tmp 0), none⟩,
  ⟨some 5, .binOp .add 3 (.tmp 4) (.const (.int .i64 62167219200)) 3, none⟩,
  ⟨some 0, .assign (.tmp 5), none⟩]) (.seq (.reg []
  [⟨some 6, .move (.tmp 0), none⟩,
  ⟨some 7, .binOp .quo 3 (.tmp 6) (.const (.int .i64 86400)) 3, none⟩,
  ⟨some 8, .binOp .quo 3 (.tmp 7) (.const (.int .i64 366)) 3, none⟩,
  ⟨some 9, .move (.tmp 0), none⟩,
  ⟨some 10, .binOp .quo 3 (.tmp 9) (.const (.int .i64 86400)) 3, none⟩,
  ⟨some 11, .build 56 #[(0, .tmp 8), (1, .const (.int .i64 1)), (2, .tmp 10)], none⟩,
  ⟨some 3, .alloc 56, none⟩,
  ⟨none, .store 56 (.tmp 3) (.tmp 11), none⟩]) (.seq (.block 0 (.loop (.seq (.seq (.reg []
  [⟨some 12, .fieldAddr 56 (.tmp 3) 0, none⟩,
  ⟨some 13, .load 3 (.tmp 12), none⟩,
  ⟨some 14, .binOp .add 3 (.tmp 13) (.const (.int .i64 1)) 3, none⟩,
  ⟨some 15, .call { callee := .value (.func 33), args := #[.tmp 14], argTypes := #[3] }, none⟩,
  ⟨some 16, .move (.tmp 0), none⟩,
  ⟨some 17, .binOp .quo 3 (.tmp 16) (.const (.int .i64 86400)) 3, none⟩,
  ⟨some 18, .binOp .leq 3 (.tmp 15) (.tmp 17) 3, none⟩]) (.cond (.tmp 18) (.skip) (.exit 0))) (.block 1 (.reg []
  [⟨some 19, .fieldAddr 56 (.tmp 3) 0, none⟩,
  ⟨some 20, .load 3 (.tmp 19), none⟩,
  ⟨some 21, .binOp .add 3 (.tmp 20) (.const (.int .i64 1)) 3, none⟩,
  ⟨some 22, .fieldAddr 56 (.tmp 3) 0, none⟩,
  ⟨none, .store 3 (.tmp 22) (.tmp 21), none⟩]))))) (.seq (.reg [⟨some 23, .fieldAddr 56 (.tmp 3) 2, none⟩,
  ⟨some 24, .load 3 (.tmp 23), none⟩,
  ⟨some 25, .fieldAddr 56 (.tmp 3) 0, none⟩,
  ⟨some 26, .load 3 (.tmp 25), none⟩,
  ⟨some 27, .call { callee := .value (.func 33), args := #[.tmp 26], argTypes := #[3] }, none⟩,
  ⟨some 28, .binOp .sub 3 (.tmp 27) (.const (.int .i64 1)) 3, none⟩,
  ⟨some 29, .binOp .sub 3 (.tmp 24) (.tmp 28) 3, none⟩,
  ⟨some 30, .fieldAddr 56 (.tmp 3) 2, none⟩]
  [⟨none, .store 3 (.tmp 30) (.tmp 29), none⟩]) (.seq (.block 2 (.loop (.seq (.seq (.reg [⟨some 31, .fieldAddr 56 (.tmp 3) 2, none⟩,
  ⟨some 32, .load 3 (.tmp 31), none⟩,
  ⟨some 33, .fieldAddr 56 (.tmp 3) 0, none⟩,
  ⟨some 34, .load 3 (.tmp 33), none⟩,
  ⟨some 35, .fieldAddr 56 (.tmp 3) 1, none⟩,
  ⟨some 36, .load 3 (.tmp 35), none⟩,
  ⟨some 37, .call { callee := .value (.func 34), args := #[.tmp 34, .tmp 36], argTypes := #[3, 3] }, none⟩,
  ⟨some 38, .binOp .gtr 3 (.tmp 32) (.tmp 37) 3, none⟩]
  []) (.cond (.tmp 38) (.skip) (.exit 2))) (.block 3 (.seq (.reg [⟨some 39, .fieldAddr 56 (.tmp 3) 2, none⟩,
  ⟨some 40, .load 3 (.tmp 39), none⟩,
  ⟨some 41, .fieldAddr 56 (.tmp 3) 0, none⟩,
  ⟨some 42, .load 3 (.tmp 41), none⟩,
  ⟨some 43, .fieldAddr 56 (.tmp 3) 1, none⟩,
  ⟨some 44, .load 3 (.tmp 43), none⟩,
  ⟨some 45, .call { callee := .value (.func 34), args := #[.tmp 42, .tmp 44], argTypes := #[3, 3] }, none⟩,
  ⟨some 46, .binOp .sub 3 (.tmp 40) (.tmp 45) 3, none⟩,
  ⟨some 47, .fieldAddr 56 (.tmp 3) 2, none⟩]
  [⟨none, .store 3 (.tmp 47) (.tmp 46), none⟩]) (.reg []
  [⟨some 48, .fieldAddr 56 (.tmp 3) 1, none⟩,
  ⟨some 49, .load 3 (.tmp 48), none⟩,
  ⟨some 50, .binOp .add 3 (.tmp 49) (.const (.int .i64 1)) 3, none⟩,
  ⟨some 51, .fieldAddr 56 (.tmp 3) 1, none⟩,
  ⟨none, .store 3 (.tmp 51) (.tmp 50), none⟩])))))) (.seq (.reg []
  [⟨some 52, .move (.tmp 0), none⟩,
  ⟨some 53, .binOp .rem 3 (.tmp 52) (.const (.int .i64 86400)) 3, none⟩,
  ⟨some 0, .assign (.tmp 53), none⟩]) (.seq (.reg []
  [⟨some 54, .load 56 (.tmp 3), none⟩,
  ⟨some 55, .move (.tmp 0), none⟩,
  ⟨some 56, .binOp .quo 3 (.tmp 55) (.const (.int .i64 3600)) 3, none⟩,
  ⟨some 57, .move (.tmp 0), none⟩,
  ⟨some 58, .binOp .rem 3 (.tmp 57) (.const (.int .i64 3600)) 3, none⟩,
  ⟨some 59, .binOp .quo 3 (.tmp 58) (.const (.int .i64 60)) 3, none⟩,
  ⟨some 60, .move (.tmp 0), none⟩,
  ⟨some 61, .binOp .rem 3 (.tmp 60) (.const (.int .i64 60)) 3, none⟩,
  ⟨some 62, .build 58 #[(0, .tmp 54), (1, .tmp 56), (2, .tmp 59), (3, .tmp 61)], none⟩,
  ⟨none, .store 58 (.tmp 2) (.tmp 62), none⟩]) (.ret))))))))
def ms19_0 : List Nat := [1, 4, 5, 6, 7, 8, 9, 10, 11, 12, 13, 14, 15, 16, 17, 18, 19, 20, 21, 22]
def ms19_1 : List Nat := [1, 4, 5, 6, 7, 8, 9, 10, 11, 12, 13, 14, 15, 16, 17, 18, 19, 20, 21, 22, 23, 24, 25, 26, 27, 28, 29, 30, 31, 32, 33, 34, 35, 36, 37, 38, 39, 40, 41, 42, 43, 44, 45, 46, 47, 48, 49, 50, 51]
theorem ls19 : Tryd.f19.body.map (strip Tryd.prog impCodA) = some lc19 := by kernel_rfl
theorem lcall19 {args : List AV} (hargs : args.length ≤ 63) {H0 : AHeap} (lo : Nat) (hlo : H0.length ≤ lo) {r0 : AV} {H0' : AHeap}
    (h : lavc Tryd.prog glob lc19 (args ++ List.replicate (63 - args.length) (.v undef)) H0 fun e t H => (e = .normal ∨ e = .ret) ∧ aret Tryd.prog t H [Go.ResultVar.cell 2 58] fun r => Fin lo H r r0 H0') :
    ACall Tryd.prog glob (H0.length == 0) 19 args H0 r0 H0' := LCall' ctx Tryd.func19 (by kernel_rfl) ls19 (by kernel_rfl) (by kernel_rfl) hargs lo hlo h
/-- escutcheon/hour.padded -/
def lc21 : LCode := .seq (.reg []
  [⟨some 4, .assign (.const (.string { data := #[] })), none⟩]) (.seq (.reg []
  [⟨some 6, .move (.tmp 0), none⟩,
  ⟨some 7, .call { callee := .value (.func 36), args := #[.tmp 6], argTypes := #[3] }, none⟩,
  ⟨some 5, .assign (.tmp 7), none⟩]) (.seq (.reg []
  [⟨some 8, .move (.tmp 1), none⟩,
  ⟨some 9, .move (.tmp 5), none⟩,
  ⟨some 10, .call { callee := .builtin .len, args := #[.tmp 9], argTypes := #[9] }, none⟩,
  ⟨some 11, .binOp .sub 3 (.tmp 8) (.tmp 10) 3, none⟩,
  ⟨some 12, .call { callee := .value (.func 37), args := #[.const (.string { data := #[48] }), .tmp 11], argTypes := #[9, 3] }, none⟩,
  ⟨some 13, .move (.tmp 5), none⟩,
  ⟨some 14, .binOp .add 9 (.tmp 12) (.tmp 13) 9, none⟩,
  ⟨some 4, .assign (.tmp 14), none⟩]) (.ret)))
theorem ls21 : Tryd.f21.body.map (strip Tryd.prog impCodA) = some lc21 := by kernel_rfl
theorem lcall21 {args : List AV} (hargs : args.length ≤ 15) {H0 : AHeap} (lo : Nat) (hlo : H0.length ≤ lo) {r0 : AV} {H0' : AHeap}
    (h : lavc Tryd.prog glob lc21 (args ++ List.replicate (15 - args.length) (.v undef)) H0 fun e t H => (e = .normal ∨ e = .ret) ∧ aret Tryd.prog t H [Go.ResultVar.tmp 4] fun r => Fin lo H r r0 H0') :
    ACall Tryd.prog glob (H0.length == 0) 21 args H0 r0 H0' := LCall' ctx Tryd.func21 (by kernel_rfl) ls21 (by kernel_rfl) (by kernel_rfl) hargs lo hlo h
/-- escutcheon/escutcheonref21.Seconds -/
def lc26 : LCode := .seq (.reg []
  [⟨some 12, .assign (.const (.int .i64 0)), none⟩]) (.seq (.reg []
  [⟨some 13, .assign (.const (.int .i64 0)), none⟩]) (.seq (.seq (.reg []
  [⟨some 14, .assign (.const (.int .i64 1970)), none⟩]) (.block 0 (.loop (.seq (.seq (.reg []
  [⟨some 17, .move (.tmp 14), none⟩,
  ⟨some 18, .move (.tmp 0), none⟩,
  ⟨some 19, .binOp .lss 3 (.tmp 17) (.tmp 18) 3, none⟩]) (.cond (.tmp 19) (.skip) (.exit 0))) (.seq (.block 1 (.reg []
  [⟨some 22, .move (.tmp 13), none⟩,
  ⟨some 23, .move (.tmp 14), none⟩,
  ⟨some 24, .call { callee := .value (.func 42), args := #[.tmp 23], argTypes := #[3] }, none⟩,
  ⟨some 25, .binOp .add 3 (.tmp 22) (.tmp 24) 3, none⟩,
  ⟨some 13, .assign (.tmp 25), none⟩])) (.reg []
  [⟨some 20, .move (.tmp 14), none⟩,
  ⟨some 21, .binOp .add 3 (.tmp 20) (.const (.int .i64 1)) 3, none⟩,
  ⟨some 14, .assign (.tmp 21), none⟩])))))) (.seq (.seq (.reg []
  [⟨some 26, .move (.tmp 0), none⟩,
  ⟨some 15, .assign (.tmp 26), none⟩]) (.block 2 (.loop (.seq (.seq (.reg []
  [⟨some 27, .move (.tmp 15), none⟩,
  ⟨some 28, .binOp .lss 3 (.tmp 27) (.const (.int .i64 1970)) 3, none⟩]) (.cond (.tmp 28) (.skip) (.exit 2))) (.seq (.block 3 (.reg []
  [⟨some 31, .move (.tmp 13), none⟩,
  ⟨some 32, .move (.tmp 15), none⟩,
  ⟨some 33, .call { callee := .value (.func 42), args := #[.tmp 32], argTypes := #[3] }, none⟩,
  ⟨some 34, .binOp .sub 3 (.tmp 31) (.tmp 33) 3, none⟩,
  ⟨some 13, .assign (.tmp 34), none⟩])) (.reg []
  [⟨some 29, .move (.tmp 15), none⟩,
  ⟨some 30, .binOp .add 3 (.tmp 29) (.const (.int .i64 1)) 3, none⟩,
  ⟨some 15, .assign (.tmp 30), none⟩])))))) (.seq (.seq (.reg []
  [⟨some 16, .assign (.const (.int .i64 1)), none⟩]) (.block 4 (.loop (.seq (.seq (.reg []
  [⟨some 35, .move (.tmp 16), none⟩,
  ⟨some 36, .move (.tmp 1), none⟩,
  ⟨some 37, .binOp .lss 3 (.tmp 35) (.tmp 36) 3, none⟩]) (.cond (.tmp 37) (.skip) (.exit 4))) (.seq (.block 5 (.reg []
  [⟨some 40, .move (.tmp 13), none⟩,
  ⟨some 41, .move (.tmp 0), none⟩,
  ⟨some 42, .move (.tmp 16), none⟩,
  ⟨some 43, .call { callee := .value (.func 43), args := #[.tmp 41, .tmp 42], argTypes := #[3, 3] }, none⟩,
  ⟨some 44, .binOp .add 3 (.tmp 40) (.tmp 43) 3, none⟩,
  ⟨some 13, .assign (.tmp 44), none⟩])) (.reg []
  [⟨some 38, .move (.tmp 16), none⟩,
  ⟨some 39, .binOp .add 3 (.tmp 38) (.const (.int .i64 1)) 3, none⟩,
  ⟨some 16, .assign (.tmp 39), none⟩])))))) (.seq (.reg []
  [⟨some 45, .move (.tmp 13), none⟩,
  ⟨some 46, .move (.tmp 2), none⟩,
  ⟨some 47, .binOp .add 3 (.tmp 45) (.tmp 46) 3, none⟩,
  ⟨some 48, .binOp .sub 3 (.tmp 47) (.const (.int .i64 1)) 3, none⟩,
  ⟨some 49, .binOp .mul 3 (.tmp 48) (.const (.int .i64 24)) 3, none⟩,
  ⟨some 50, .move (.tmp 3), none⟩,
  ⟨some 51, .binOp .add 3 (.tmp 49) (.tmp 50) 3, none⟩,
  ⟨some 52, .binOp .mul 3 (.tmp 51) (.const (.int .i64 3600)) 3, none⟩,
  ⟨some 53, .move (.tmp 4), none⟩,
  ⟨some 54, .binOp .mul 3 (.tmp 53) (.const (.int .i64 60)) 3, none⟩,
  ⟨some 55, .binOp .add 3 (.tmp 52) (.tmp 54) 3, none⟩,
  ⟨some 56, .move (.tmp 5), none⟩,
  ⟨some 57, .binOp .add 3 (.tmp 55) (.tmp 56) 3, none⟩,
  ⟨some 12, .assign (.tmp 57), none⟩]) (.ret))))))
def ms26_0 : List Nat := [6, 7, 8, 9, 10, 11, 13, 14, 17, 18, 19, 20, 21, 22, 23, 24, 25]
def ms26_1 : List Nat := [6, 7, 8, 9, 10, 11, 13, 14, 15, 17, 18, 19, 20, 21, 22, 23, 24, 25, 26, 27, 28, 29, 30, 31, 32, 33, 34]
def ms26_2 : List Nat := [6, 7, 8, 9, 10, 11, 13, 14, 15, 16, 17, 18, 19, 20, 21, 22, 23, 24, 25, 26, 27, 28, 29, 30, 31, 32, 33, 34, 35, 36, 37, 38, 39, 40, 41, 42, 43, 44]
theorem ls26 : Tryd.f26.body.map (strip Tryd.prog impCodA) = some lc26 := by kernel_rfl
theorem lcall26 {args : List AV} (hargs : args.length ≤ 58) {H0 : AHeap} (lo : Nat) (hlo : H0.length ≤ lo) {r0 : AV} {H0' : AHeap}
    (h : lavc Tryd.prog glob lc26 (args ++ List.replicate (58 - args.length) (.v undef)) H0 fun e t H => (e = .normal ∨ e = .ret) ∧ aret Tryd.prog t H [Go.ResultVar.tmp 12] fun r => Fin lo H r r0 H0') :
    ACall Tryd.prog glob (H0.length == 0) 26 args H0 r0 H0' := LCall' ctx Tryd.func26 (by kernel_rfl) ls26 (by kernel_rfl) (by kernel_rfl) hargs lo hlo h
/-- escutcheon/hour.first -/
def lc31 : LCode := .seq (.reg []
  [⟨some 0, .assign (.const (.int .i64 0)), none⟩]) (.seq (.reg []
  [⟨some 0, .assign (.const (.int .i64 (-62167219200))), none⟩]) (.ret))
theorem ls31 : Tryd.f31.body.map (strip Tryd.prog impCodA) = some lc31 := by kernel_rfl
theorem lcall31 {args : List AV} (hargs : args.length ≤ 1) {H0 : AHeap} (lo : Nat) (hlo : H0.length ≤ lo) {r0 : AV} {H0' : AHeap}
    (h : lavc Tryd.prog glob lc31 (args ++ List.replicate (1 - args.length) (.v undef)) H0 fun e t H => (e = .normal ∨ e = .ret) ∧ aret Tryd.prog t H [Go.ResultVar.tmp 0] fun r => Fin lo H r r0 H0') :
    ACall Tryd.prog glob (H0.length == 0) 31 args H0 r0 H0' := LCall' ctx Tryd.func31 (by kernel_rfl) ls31 (by kernel_rfl) (by kernel_rfl) hargs lo hlo h
/-- escutcheon/hour.last -/
def lc32 : LCode := .seq (.reg []
  [⟨some 0, .assign (.const (.int .i64 0)), none⟩]) (.seq (.reg []
  [⟨some 1, .call { callee := .value (.func 33), args := #[.const (.int .i64 10000)], argTypes := #[3] }, none⟩,
  ⟨some 2, .binOp .sub 3 (.tmp 1) (.const (.int .i64 719528)) 3, none⟩,
  ⟨some 3, .binOp .mul 3 (.tmp 2) (.const (.int .i64 86400)) 3, none⟩,
  ⟨some 4, .binOp .sub 3 (.tmp 3) (.const (.int .i64 1)) 3, none⟩,
  ⟨some 0, .assign (.tmp 4), none⟩]) (.ret))
theorem ls32 : Tryd.f32.body.map (strip Tryd.prog impCodA) = some lc32 := by kernel_rfl
theorem lcall32 {args : List AV} (hargs : args.length ≤ 5) {H0 : AHeap} (lo : Nat) (hlo : H0.length ≤ lo) {r0 : AV} {H0' : AHeap}
    (h : lavc Tryd.prog glob lc32 (args ++ List.replicate (5 - args.length) (.v undef)) H0 fun e t H => (e = .normal ∨ e = .ret) ∧ aret Tryd.prog t H [Go.ResultVar.tmp 0] fun r => Fin lo H r r0 H0') :
    ACall Tryd.prog glob (H0.length == 0) 32 args H0 r0 H0' := LCall' ctx Tryd.func32 (by kernel_rfl) ls32 (by kernel_rfl) (by kernel_rfl) hargs lo hlo h
/-- escutcheon/hour.ahead -/
def lc33 : LCode := .seq (.reg []
  [⟨some 2, .assign (.const (.int .i64 0)), none⟩]) (.seq (.reg []
  [⟨some 3, .move (.tmp 0), none⟩,
  ⟨some 4, .binOp .mul 3 (.tmp 3) (.const (.int .i64 365)) 3, none⟩,
  ⟨some 5, .move (.tmp 0), none⟩,
  ⟨some 6, .binOp .add 3 (.tmp 5) (.const (.int .i64 3)) 3, none⟩,
  ⟨some 7, .binOp .quo 3 (.tmp 6) (.const (.int .i64 4)) 3, none⟩,
  ⟨some 8, .binOp .add 3 (.tmp 4) (.tmp 7) 3, none⟩,
  ⟨some 9, .move (.tmp 0), none⟩,
  ⟨some 10, .binOp .add 3 (.tmp 9) (.const (.int .i64 99)) 3, none⟩,
  ⟨some 11, .binOp .quo 3 (.tmp 10) (.const (.int .i64 100)) 3, none⟩,
  ⟨some 12, .binOp .sub 3 (.tmp 8) (.tmp 11) 3, none⟩,
  ⟨some 13, .move (.tmp 0), none⟩,
  ⟨some 14, .binOp .add 3 (.tmp 13) (.const (.int .i64 399)) 3, none⟩,
  ⟨some 15, .binOp .quo 3 (.tmp 14) (.const (.int .i64 400)) 3, none⟩,
  ⟨some 16, .binOp .add 3 (.tmp 12) (.tmp 15) 3, none⟩,
  ⟨some 2, .assign (.tmp 16), none⟩]) (.ret))
theorem ls33 : Tryd.f33.body.map (strip Tryd.prog impCodA) = some lc33 := by kernel_rfl
theorem lcall33 {args : List AV} (hargs : args.length ≤ 17) {H0 : AHeap} (lo : Nat) (hlo : H0.length ≤ lo) {r0 : AV} {H0' : AHeap}
    (h : lavc Tryd.prog glob lc33 (args ++ List.replicate (17 - args.length) (.v undef)) H0 fun e t H => (e = .normal ∨ e = .ret) ∧ aret Tryd.prog t H [Go.ResultVar.tmp 2] fun r => Fin lo H r r0 H0') :
    ACall Tryd.prog glob (H0.length == 0) 33 args H0 r0 H0' := LCall' ctx Tryd.func33 (by kernel_rfl) ls33 (by kernel_rfl) (by kernel_rfl) hargs lo hlo h
/-- escutcheon/hour.Days -/
def lc34 : LCode := .seq (.reg []
  [⟨some 4, .assign (.const (.int .i64 0)), none⟩]) (.seq (.seq (.reg []
  [⟨some 5, .move (.tmp 0), none⟩,
  ⟨some 6, .binOp .lss 3 (.tmp 5) (.const (.int .i64 0)) 3, none⟩,
  ⟨some 7, .move (.tmp 6), none⟩,
  ⟨some 8, .move (.tmp 0), (some (7, false))⟩,
  ⟨some 9, .binOp .gtr 3 (.tmp 8) (.const (.int .i64 9999)) 3, (some (7, false))⟩,
  ⟨some 10, .pick (.tmp 7) (.const (.bool true)) (.tmp 9), none⟩,
  ⟨some 11, .move (.tmp 10), none⟩,
  ⟨some 12, .move (.tmp 1), (some (11, false))⟩,
  ⟨some 13, .binOp .lss 3 (.tmp 12) (.const (.int .i64 1)) 3, (some (11, false))⟩,
  ⟨some 14, .pick (.tmp 11) (.const (.bool true)) (.tmp 13), none⟩,
  ⟨some 15, .move (.tmp 14), none⟩,
  ⟨some 16, .move (.tmp 1), (some (15, false))⟩,
  ⟨some 17, .binOp .gtr 3 (.tmp 16) (.const (.int .i64 12)) 3, (some (15, false))⟩,
  ⟨some 18, .pick (.tmp 15) (.const (.bool true)) (.tmp 17), none⟩]) (.cond (.tmp 18) (.seq (.reg []
  [⟨some 4, .assign (.const (.int .i64 0)), none⟩]) (.ret)) (.skip))) (.seq (.seq (.reg []
  [⟨some 19, .move (.tmp 1), none⟩,
  ⟨some 20, .binOp .eql 3 (.tmp 19) (.const (.int .i64 2)) 3, none⟩,
  ⟨some 21, .move (.tmp 20), none⟩,
  ⟨some 22, .move (.tmp 0), (some (21, true))⟩,
  ⟨some 23, .call { callee := .value (.func 46), args := #[.tmp 22], argTypes := #[3] }, (some (21, true))⟩,
  ⟨some 24, .pick (.tmp 21) (.tmp 23) (.const (.bool false)), none⟩]) (.cond (.tmp 24) (.seq (.reg []
  [⟨some 4, .assign (.const (.int .i64 29)), none⟩]) (.ret)) (.skip))) (.seq (.reg []
  [⟨some 25, .move (.tmp 1), none⟩,
  ⟨some 26, .binOp .sub 3 (.tmp 25) (.const (.int .i64 1)) 3, none⟩,
  ⟨some 27, .indexAddr 94 (.global 0) (.tmp 26), none⟩,
  ⟨some 28, .load 3 (.tmp 27), none⟩,
  ⟨some 4, .assign (.tmp 28), none⟩]) (.ret))))
theorem ls34 : Tryd.f34.body.map (strip Tryd.prog impCodA) = some lc34 := by kernel_rfl
theorem lcall34 {args : List AV} (hargs : args.length ≤ 29) {H0 : AHeap} (lo : Nat) (hlo : H0.length ≤ lo) {r0 : AV} {H0' : AHeap}
    (h : lavc Tryd.prog glob lc34 (args ++ List.replicate (29 - args.length) (.v undef)) H0 fun e t H => (e = .normal ∨ e = .ret) ∧ aret Tryd.prog t H [Go.ResultVar.tmp 4] fun r => Fin lo H r r0 H0') :
    ACall Tryd.prog glob (H0.length == 0) 34 args H0 r0 H0' := LCall' ctx Tryd.func34 (by kernel_rfl) ls34 (by kernel_rfl) (by kernel_rfl) hargs lo hlo h
/-- strconv.Itoa -/
def lc36 : LCode := .seq (.reg []
  [⟨some 2, .assign (.const (.string { data := #[] })), none⟩]) (.seq (.reg []
  [⟨some 3, .move (.tmp 0), none⟩,
  ⟨some 4, .call { callee := .value (.func 48), args := #[.tmp 3], argTypes := #[3] }, none⟩,
  ⟨some 2, .assign (.tmp 4), none⟩]) (.ret))
theorem ls36 : Tryd.f36.body.map (strip Tryd.prog impCodA) = some lc36 := by kernel_rfl
theorem lcall36 {args : List AV} (hargs : args.length ≤ 5) {H0 : AHeap} (lo : Nat) (hlo : H0.length ≤ lo) {r0 : AV} {H0' : AHeap}
    (h : lavc Tryd.prog glob lc36 (args ++ List.replicate (5 - args.length) (.v undef)) H0 fun e t H => (e = .normal ∨ e = .ret) ∧ aret Tryd.prog t H [Go.ResultVar.tmp 2] fun r => Fin lo H r r0 H0') :
    ACall Tryd.prog glob (H0.length == 0) 36 args H0 r0 H0' := LCall' ctx Tryd.func36 (by kernel_rfl) ls36 (by kernel_rfl) (by kernel_rfl) hargs lo hlo h
/-- strings.Repeat -/
def lc37 : LCode := .seq (.reg []
  [⟨some 4, .assign (.const (.string { data := #[] })), none⟩]) (.seq (.seq (.reg []
  [⟨some 11, .move (.tmp 1), none⟩]) (.block 0 (.seq (.reg []
  [⟨some 13, .binOp .eql 3 (.tmp 11) (.const (.int .i64 0)) 3, none⟩,
  ⟨some 12, .assign (.tmp 13), none⟩]) (.cond (.tmp 12) (.seq (.reg []
  [⟨some 4, .assign (.const (.string { data := #[] })), none⟩]) (.ret)) (.seq (.reg []
  [⟨some 15, .binOp .eql 3 (.tmp 11) (.const (.int .i64 1)) 3, none⟩,
  ⟨some 14, .assign (.tmp 15), none⟩]) (.cond (.tmp 14) (.seq (.reg []
  [⟨some 16, .move (.tmp 0), none⟩,
  ⟨some 4, .assign (.tmp 16), none⟩]) (.ret)) (.skip))))))) (.seq (.seq (.reg []
  [⟨some 17, .move (.tmp 1), none⟩,
  ⟨some 18, .binOp .lss 3 (.tmp 17) (.const (.int .i64 0)) 3, none⟩]) (.cond (.tmp 18) (.reg []
  [⟨some 19, .makeInterface 9 (.const (.string { data := #[115, 116, 114, 105, 110, 103, 115, 58, 32, 110, 101, 103, 97, 116, 105, 118, 101, 32, 82, 101, 112, 101, 97, 116, 32, 99, 111, 117, 110, 116] })), none⟩,
  ⟨none, .panic (.tmp 19), none⟩]) (.skip))) (.seq (.reg []
  [⟨some 21, .move (.tmp 0), none⟩,
  ⟨some 22, .call { callee := .builtin .len, args := #[.tmp 21], argTypes := #[9] }, none⟩,
  ⟨some 23, .convert 3 97 (.tmp 22), none⟩,
  ⟨some 24, .move (.tmp 1), none⟩,
  ⟨some 25, .convert 3 97 (.tmp 24), none⟩,
  ⟨some 26, .call { callee := .value (.func 49), args := #[.tmp 23, .tmp 25], argTypes := #[97, 97] }, none⟩,
  ⟨some 20, .move (.tmp 26), none⟩,
  ⟨some 27, .extract (.tmp 20) 0, none⟩,
  ⟨some 28, .extract (.tmp 20) 1, none⟩,
  ⟨some 5, .assign (.tmp 27), none⟩,
  ⟨some 6, .assign (.tmp 28), none⟩]) (.seq (.seq (.reg []
  [⟨some 29, .move (.tmp 5), none⟩,
  ⟨some 30, .binOp .gtr 97 (.tmp 29) (.const (.int .u64 0)) 97, none⟩,
  ⟨some 31, .move (.tmp 30), none⟩,
  ⟨some 32, .move (.tmp 6), (some (31, false))⟩,
  ⟨some 33, .binOp .gtr 97 (.tmp 32) (.const (.int .u64 9223372036854775807)) 97, (some (31, false))⟩,
  ⟨some 34, .pick (.tmp 31) (.const (.bool true)) (.tmp 33), none⟩]) (.cond (.tmp 34) (.reg []
  [⟨some 35, .makeInterface 9 (.const (.string { data := #[115, 116, 114, 105, 110, 103, 115, 58, 32, 82, 101, 112, 101, 97, 116, 32, 111, 117, 116, 112, 117, 116, 32, 108, 101, 110, 103, 116, 104, 32, 111, 118, 101, 114, 102, 108, 111, 119] })), none⟩,
  ⟨none, .panic (.tmp 35), none⟩]) (.skip))) (.seq (.reg []
  [⟨some 36, .move (.tmp 6), none⟩,
  ⟨some 37, .convert 97 3 (.tmp 36), none⟩,
  ⟨some 7, .assign (.tmp 37), none⟩]) (.seq (.seq (.reg []
  [⟨some 38, .move (.tmp 0), none⟩,
  ⟨some 39, .call { callee := .builtin .len, args := #[.tmp 38], argTypes := #[9] }, none⟩,
  ⟨some 40, .binOp .eql 3 (.tmp 39) (.const (.int .i64 0)) 3, none⟩]) (.cond (.tmp 40) (.seq (.reg []
  [⟨some 4, .assign (.const (.string { data := #[] })), none⟩]) (.ret)) (.skip))) (.seq (.seq (.reg []
  [⟨some 41, .move (.tmp 0), none⟩,
  ⟨some 42, .index 9 (.tmp 41) (.const (.int .i64 0)), none⟩]) (.block 1 (.seq (.seq (.reg []
  [⟨some 44, .binOp .eql 5 (.tmp 42) (.const (.int .u8 32)) 5, none⟩,
  ⟨some 43, .assign (.tmp 44), none⟩]) (.cond (.tmp 43) (.skip) (.seq (.reg []
  [⟨some 45, .binOp .eql 5 (.tmp 42) (.const (.int .u8 45)) 5, none⟩,
  ⟨some 43, .assign (.tmp 45), none⟩]) (.cond (.tmp 43) (.skip) (.seq (.reg []
  [⟨some 46, .binOp .eql 5 (.tmp 42) (.const (.int .u8 48)) 5, none⟩,
  ⟨some 43, .assign (.tmp 46), none⟩]) (.cond (.tmp 43) (.skip) (.seq (.reg []
  [⟨some 47, .binOp .eql 5 (.tmp 42) (.const (.int .u8 61)) 5, none⟩,
  ⟨some 43, .assign (.tmp 47), none⟩]) (.cond (.tmp 43) (.skip) (.reg []
  [⟨some 48, .binOp .eql 5 (.tmp 42) (.const (.int .u8 9)) 5, none⟩,
  ⟨some 43, .assign (.tmp 48), none⟩]))))))))) (.cond (.tmp 43) (.block 2 (.seq (.reg []
  [⟨some 50, .move (.tmp 7), none⟩,
  ⟨some 51, .binOp .leq 3 (.tmp 50) (.const (.int .i64 128)) 3, none⟩,
  ⟨some 52, .move (.tmp 51), none⟩,
  ⟨some 53, .move (.tmp 0), (some (52, true))⟩,
  ⟨some 54, .call { callee := .value (.func 50), args := #[.const (.string { data := #[32, 32, 32, 32, 32, 32, 32, 32, 32, 32, 32, 32, 32, 32, 32, 32, 32, 32, 32, 32, 32, 32, 32, 32, 32, 32, 32, 32, 32, 32, 32, 32, 32, 32, 32, 32, 32, 32, 32, 32, 32, 32, 32, 32, 32, 32, 32, 32, 32, 32, 32, 32, 32, 32, 32, 32, 32, 32, 32, 32, 32, 32, 32, 32, 32, 32, 32, 32, 32, 32, 32, 32, 32, 32, 32, 32, 32, 32, 32, 32, 32, 32, 32, 32, 32, 32, 32, 32, 32, 32, 32, 32, 32, 32, 32, 32, 32, 32, 32, 32, 32, 32, 32, 32, 32, 32, 32, 32, 32, 32, 32, 32, 32, 32, 32, 32, 32, 32, 32, 32, 32, 32, 32, 32, 32, 32, 32, 32] }), .tmp 53], argTypes := #[9, 9] }, (some (52, true))⟩,
  ⟨some 55, .pick (.tmp 52) (.tmp 54) (.const (.bool false)), none⟩,
  ⟨some 49, .assign (.tmp 55), none⟩]) (.cond (.tmp 49) (.seq (.reg []
  [⟨some 56, .move (.tmp 7), none⟩,
  ⟨some 57, .slice 9 (.const (.string { data := #[32, 32, 32, 32, 32, 32, 32, 32, 32, 32, 32, 32, 32, 32, 32, 32, 32, 32, 32, 32, 32, 32, 32, 32, 32, 32, 32, 32, 32, 32, 32, 32, 32, 32, 32, 32, 32, 32, 32, 32, 32, 32, 32, 32, 32, 32, 32, 32, 32, 32, 32, 32, 32, 32, 32, 32, 32, 32, 32, 32, 32, 32, 32, 32, 32, 32, 32, 32, 32, 32, 32, 32, 32, 32, 32, 32, 32, 32, 32, 32, 32, 32, 32, 32, 32, 32, 32, 32, 32, 32, 32, 32, 32, 32, 32, 32, 32, 32, 32, 32, 32, 32, 32, 32, 32, 32, 32, 32, 32, 32, 32, 32, 32, 32, 32, 32, 32, 32, 32, 32, 32, 32, 32, 32, 32, 32, 32, 32] })) none (some (.tmp 56)) none, none⟩,
  ⟨some 4, .assign (.tmp 57), none⟩]) (.ret)) (.seq (.reg []
  [⟨some 59, .move (.tmp 7), none⟩,
  ⟨some 60, .binOp .leq 3 (.tmp 59) (.const (.int .i64 128)) 3, none⟩,
  ⟨some 61, .move (.tmp 60), none⟩,
  ⟨some 62, .move (.tmp 0), (some (61, true))⟩,
  ⟨some 63, .call { callee := .value (.func 50), args := #[.const (.string { data := #[45, 45, 45, 45, 45, 45, 45, 45, 45, 45, 45, 45, 45, 45, 45, 45, 45, 45, 45, 45, 45, 45, 45, 45, 45, 45, 45, 45, 45, 45, 45, 45, 45, 45, 45, 45, 45, 45, 45, 45, 45, 45, 45, 45, 45, 45, 45, 45, 45, 45, 45, 45, 45, 45, 45, 45, 45, 45, 45, 45, 45, 45, 45, 45, 45, 45, 45, 45, 45, 45, 45, 45, 45, 45, 45, 45, 45, 45, 45, 45, 45, 45, 45, 45, 45, 45, 45, 45, 45, 45, 45, 45, 45, 45, 45, 45, 45, 45, 45, 45, 45, 45, 45, 45, 45, 45, 45, 45, 45, 45, 45, 45, 45, 45, 45, 45, 45, 45, 45, 45, 45, 45, 45, 45, 45, 45, 45, 45] }), .tmp 62], argTypes := #[9, 9] }, (some (61, true))⟩,
  ⟨some 64, .pick (.tmp 61) (.tmp 63) (.const (.bool false)), none⟩,
  ⟨some 58, .assign (.tmp 64), none⟩]) (.cond (.tmp 58) (.seq (.reg []
  [⟨some 65, .move (.tmp 7), none⟩,
  ⟨some 66, .slice 9 (.const (.string { data := #[45, 45, 45, 45, 45, 45, 45, 45, 45, 45, 45, 45, 45, 45, 45, 45, 45, 45, 45, 45, 45, 45, 45, 45, 45, 45, 45, 45, 45, 45, 45, 45, 45, 45, 45, 45, 45, 45, 45, 45, 45, 45, 45, 45, 45, 45, 45, 45, 45, 45, 45, 45, 45, 45, 45, 45, 45, 45, 45, 45, 45, 45, 45, 45, 45, 45, 45, 45, 45, 45, 45, 45, 45, 45, 45, 45, 45, 45, 45, 45, 45, 45, 45, 45, 45, 45, 45, 45, 45, 45, 45, 45, 45, 45, 45, 45, 45, 45, 45, 45, 45, 45, 45, 45, 45, 45, 45, 45, 45, 45, 45, 45, 45, 45, 45, 45, 45, 45, 45, 45, 45, 45, 45, 45, 45, 45, 45, 45] })) none (some (.tmp 65)) none, none⟩,
  ⟨some 4, .assign (.tmp 66), none⟩]) (.ret)) (.seq (.reg []
  [⟨some 68, .move (.tmp 7), none⟩,
  ⟨some 69, .binOp .leq 3 (.tmp 68) (.const (.int .i64 64)) 3, none⟩,
  ⟨some 70, .move (.tmp 69), none⟩,
  ⟨some 71, .move (.tmp 0), (some (70, true))⟩,
  ⟨some 72, .call { callee := .value (.func 50), args := #[.const (.string { data := #[48, 48, 48, 48, 48, 48, 48, 48, 48, 48, 48, 48, 48, 48, 48, 48, 48, 48, 48, 48, 48, 48, 48, 48, 48, 48, 48, 48, 48, 48, 48, 48, 48, 48, 48, 48, 48, 48, 48, 48, 48, 48, 48, 48, 48, 48, 48, 48, 48, 48, 48, 48, 48, 48, 48, 48, 48, 48, 48, 48, 48, 48, 48, 48] }), .tmp 71], argTypes := #[9, 9] }, (some (70, true))⟩,
  ⟨some 73, .pick (.tmp 70) (.tmp 72) (.const (.bool false)), none⟩,
  ⟨some 67, .assign (.tmp 73), none⟩]) (.cond (.tmp 67) (.seq (.reg []
  [⟨some 74, .move (.tmp 7), none⟩,
  ⟨some 75, .slice 9 (.const (.string { data := #[48, 48, 48, 48, 48, 48, 48, 48, 48, 48, 48, 48, 48, 48, 48, 48, 48, 48, 48, 48, 48, 48, 48, 48, 48, 48, 48, 48, 48, 48, 48, 48, 48, 48, 48, 48, 48, 48, 48, 48, 48, 48, 48, 48, 48, 48, 48, 48, 48, 48, 48, 48, 48, 48, 48, 48, 48, 48, 48, 48, 48, 48, 48, 48] })) none (some (.tmp 74)) none, none⟩,
  ⟨some 4, .assign (.tmp 75), none⟩]) (.ret)) (.seq (.reg []
  [⟨some 77, .move (.tmp 7), none⟩,
  ⟨some 78, .binOp .leq 3 (.tmp 77) (.const (.int .i64 128)) 3, none⟩,
  ⟨some 79, .move (.tmp 78), none⟩,
  ⟨some 80, .move (.tmp 0), (some (79, true))⟩,
  ⟨some 81, .call { callee := .value (.func 50), args := #[.const (.string { data := #[61, 61, 61, 61, 61, 61, 61, 61, 61, 61, 61, 61, 61, 61, 61, 61, 61, 61, 61, 61, 61, 61, 61, 61, 61, 61, 61, 61, 61, 61, 61, 61, 61, 61, 61, 61, 61, 61, 61, 61, 61, 61, 61, 61, 61, 61, 61, 61, 61, 61, 61, 61, 61, 61, 61, 61, 61, 61, 61, 61, 61, 61, 61, 61, 61, 61, 61, 61, 61, 61, 61, 61, 61, 61, 61, 61, 61, 61, 61, 61, 61, 61, 61, 61, 61, 61, 61, 61, 61, 61, 61, 61, 61, 61, 61, 61, 61, 61, 61, 61, 61, 61, 61, 61, 61, 61, 61, 61, 61, 61, 61, 61, 61, 61, 61, 61, 61, 61, 61, 61, 61, 61, 61, 61, 61, 61, 61, 61] }), .tmp 80], argTypes := #[9, 9] }, (some (79, true))⟩,
  ⟨some 82, .pick (.tmp 79) (.tmp 81) (.const (.bool false)), none⟩,
  ⟨some 76, .assign (.tmp 82), none⟩]) (.cond (.tmp 76) (.seq (.reg []
  [⟨some 83, .move (.tmp 7), none⟩,
  ⟨some 84, .slice 9 (.const (.string { data := #[61, 61, 61, 61, 61, 61, 61, 61, 61, 61, 61, 61, 61, 61, 61, 61, 61, 61, 61, 61, 61, 61, 61, 61, 61, 61, 61, 61, 61, 61, 61, 61, 61, 61, 61, 61, 61, 61, 61, 61, 61, 61, 61, 61, 61, 61, 61, 61, 61, 61, 61, 61, 61, 61, 61, 61, 61, 61, 61, 61, 61, 61, 61, 61, 61, 61, 61, 61, 61, 61, 61, 61, 61, 61, 61, 61, 61, 61, 61, 61, 61, 61, 61, 61, 61, 61, 61, 61, 61, 61, 61, 61, 61, 61, 61, 61, 61, 61, 61, 61, 61, 61, 61, 61, 61, 61, 61, 61, 61, 61, 61, 61, 61, 61, 61, 61, 61, 61, 61, 61, 61, 61, 61, 61, 61, 61, 61, 61] })) none (some (.tmp 83)) none, none⟩,
  ⟨some 4, .assign (.tmp 84), none⟩]) (.ret)) (.seq (.reg []
  [⟨some 86, .move (.tmp 7), none⟩,
  ⟨some 87, .binOp .leq 3 (.tmp 86) (.const (.int .i64 64)) 3, none⟩,
  ⟨some 88, .move (.tmp 87), none⟩,
  ⟨some 89, .move (.tmp 0), (some (88, true))⟩,
  ⟨some 90, .call { callee := .value (.func 50), args := #[.const (.string { data := #[9, 9, 9, 9, 9, 9, 9, 9, 9, 9, 9, 9, 9, 9, 9, 9, 9, 9, 9, 9, 9, 9, 9, 9, 9, 9, 9, 9, 9, 9, 9, 9, 9, 9, 9, 9, 9, 9, 9, 9, 9, 9, 9, 9, 9, 9, 9, 9, 9, 9, 9, 9, 9, 9, 9, 9, 9, 9, 9, 9, 9, 9, 9, 9] }), .tmp 89], argTypes := #[9, 9] }, (some (88, true))⟩,
  ⟨some 91, .pick (.tmp 88) (.tmp 90) (.const (.bool false)), none⟩,
  ⟨some 85, .assign (.tmp 91), none⟩]) (.cond (.tmp 85) (.seq (.reg []
  [⟨some 92, .move (.tmp 7), none⟩,
  ⟨some 93, .slice 9 (.const (.string { data := #[9, 9, 9, 9, 9, 9, 9, 9, 9, 9, 9, 9, 9, 9, 9, 9, 9, 9, 9, 9, 9, 9, 9, 9, 9, 9, 9, 9, 9, 9, 9, 9, 9, 9, 9, 9, 9, 9, 9, 9, 9, 9, 9, 9, 9, 9, 9, 9, 9, 9, 9, 9, 9, 9, 9, 9, 9, 9, 9, 9, 9, 9, 9, 9] })) none (some (.tmp 92)) none, none⟩,
  ⟨some 4, .assign (.tmp 93), none⟩]) (.ret)) (.skip)))))))))))) (.skip))))) (.seq (.reg []
  [⟨some 94, .move (.tmp 7), none⟩,
  ⟨some 8, .assign (.tmp 94), none⟩]) (.seq (.seq (.reg []
  [⟨some 95, .move (.tmp 7), none⟩,
  ⟨some 96, .binOp .gtr 3 (.tmp 95) (.const (.int .i64 8192)) 3, none⟩]) (.cond (.tmp 96) (.seq (.reg []
  [⟨some 97, .move (.tmp 0), none⟩,
  ⟨some 98, .call { callee := .builtin .len, args := #[.tmp 97], argTypes := #[9] }, none⟩,
  ⟨some 99, .binOp .quo 3 (.const (.int .i64 8192)) (.tmp 98) 3, none⟩,
  ⟨some 100, .move (.tmp 0), none⟩,
  ⟨some 101, .call { callee := .builtin .len, args := #[.tmp 100], argTypes := #[9] }, none⟩,
  ⟨some 102, .binOp .mul 3 (.tmp 99) (.tmp 101) 3, none⟩,
  ⟨some 8, .assign (.tmp 102), none⟩]) (.seq (.reg []
  [⟨some 103, .move (.tmp 8), none⟩,
  ⟨some 104, .binOp .eql 3 (.tmp 103) (.const (.int .i64 0)) 3, none⟩]) (.cond (.tmp 104) (.reg []
  [⟨some 105, .move (.tmp 0), none⟩,
  ⟨some 106, .call { callee := .builtin .len, args := #[.tmp 105], argTypes := #[9] }, none⟩,
  ⟨some 8, .assign (.tmp 106), none⟩]) (.skip)))) (.skip))) (.seq (.reg []
  [⟨some 9, .alloc 63, none⟩]) (.seq (.reg []
  [⟨some 107, .move (.tmp 7), none⟩,
  ⟨some 108, .call { callee := .value (.func 51), args := #[.tmp 9, .tmp 107], argTypes := #[63, 3] }, none⟩]) (.seq (.reg []
  [⟨some 109, .move (.tmp 0), none⟩,
  ⟨some 110, .call { callee := .value (.func 20), args := #[.tmp 9, .tmp 109], argTypes := #[63, 9] }, none⟩]) (.seq (.block 3 (.loop (.seq (.seq (.reg []
  [⟨some 111, .call { callee := .value (.func 52), args := #[.tmp 9], argTypes := #[63] }, none⟩,
  ⟨some 112, .move (.tmp 7), none⟩,
  ⟨some 113, .binOp .lss 3 (.tmp 111) (.tmp 112) 3, none⟩]) (.cond (.tmp 113) (.skip) (.exit 3))) (.block 4 (.seq (.reg []
  [⟨some 114, .move (.tmp 7), none⟩,
  ⟨some 115, .call { callee := .value (.func 52), args := #[.tmp 9], argTypes := #[63] }, none⟩,
  ⟨some 116, .binOp .sub 3 (.tmp 114) (.tmp 115) 3, none⟩,
  ⟨some 117, .call { callee := .value (.func 52), args := #[.tmp 9], argTypes := #[63] }, none⟩,
  ⟨some 118, .move (.tmp 8), none⟩,
  ⟨some 119, .call { callee := .builtin .min, args := #[.tmp 116, .tmp 117, .tmp 118], argTypes := #[3, 3, 3] }, none⟩,
  ⟨some 10, .assign (.tmp 119), none⟩]) (.reg []
  [⟨some 120, .call { callee := .value (.func 22), args := #[.tmp 9], argTypes := #[63] }, none⟩,
  ⟨some 121, .move (.tmp 10), none⟩,
  ⟨some 122, .slice 9 (.tmp 120) none (some (.tmp 121)) none, none⟩,
  ⟨some 123, .call { callee := .value (.func 20), args := #[.tmp 9, .tmp 122], argTypes := #[63, 9] }, none⟩])))))) (.seq (.reg []
  [⟨some 124, .call { callee := .value (.func 22), args := #[.tmp 9], argTypes := #[63] }, none⟩,
  ⟨some 4, .assign (.tmp 124), none⟩]) (.ret)))))))))))))))
def ms37_0 : List Nat := [0, 1, 2, 3, 5, 6, 10, 11, 12, 13, 14, 15, 16, 17, 18, 19, 20, 21, 22, 23, 24, 25, 26, 27, 28, 29, 30, 31, 32, 33, 34, 35, 36, 37, 38, 39, 40, 41, 42, 43, 44, 45, 46, 47, 48, 49, 50, 51, 52, 53, 54, 55, 56, 57, 58, 59, 60, 61, 62, 63, 64, 65, 66, 67, 68, 69, 70, 71, 72, 73, 74, 75, 76, 77, 78, 79, 80, 81, 82, 83, 84, 85, 86, 87, 88, 89, 90, 91, 92, 93, 94, 95, 96, 97, 98, 99, 100, 101, 102, 103, 104, 105, 106, 107, 108, 109, 110, 111, 112, 113, 114, 115, 116, 117, 118, 119, 120, 121, 122, 123]
theorem ls37 : Tryd.f37.body.map (strip Tryd.prog impCodA) = some lc37 := by kernel_rfl
theorem lcall37 {args : List AV} (hargs : args.length ≤ 125) {H0 : AHeap} (lo : Nat) (hlo : H0.length ≤ lo) {r0 : AV} {H0' : AHeap}
    (h : lavc Tryd.prog glob lc37 (args ++ List.replicate (125 - args.length) (.v undef)) H0 fun e t H => (e = .normal ∨ e = .ret) ∧ aret Tryd.prog t H [Go.ResultVar.tmp 4] fun r => Fin lo H r r0 H0') :
    ACall Tryd.prog glob (H0.length == 0) 37 args H0 r0 H0' := LCall' ctx Tryd.func37 (by kernel_rfl) ls37 (by kernel_rfl) (by kernel_rfl) hargs lo hlo h
/-- escutcheon/escutcheonref21.year -/
def lc42 : LCode := .seq (.reg []
  [⟨some 2, .assign (.const (.int .i64 0)), none⟩]) (.seq (.reg []
  [⟨some 3, .assign (.const (.int .i64 0)), none⟩]) (.seq (.seq (.reg []
  [⟨some 4, .assign (.const (.int .i64 1)), none⟩]) (.block 0 (.loop (.seq (.seq (.reg []
  [⟨some 5, .move (.tmp 4), none⟩,
  ⟨some 6, .binOp .leq 3 (.tmp 5) (.const (.int .i64 12)) 3, none⟩]) (.cond (.tmp 6) (.skip) (.exit 0))) (.seq (.block 1 (.reg []
  [⟨some 9, .move (.tmp 3), none⟩,
  ⟨some 10, .move (.tmp 0), none⟩,
  ⟨some 11, .move (.tmp 4), none⟩,
  ⟨some 12, .call { callee := .value (.func 43), args := #[.tmp 10, .tmp 11], argTypes := #[3, 3] }, none⟩,
  ⟨some 13, .binOp .add 3 (.tmp 9) (.tmp 12) 3, none⟩,
  ⟨some 3, .assign (.tmp 13), none⟩])) (.reg []
  [⟨some 7, .move (.tmp 4), none⟩,
  ⟨some 8, .binOp .add 3 (.tmp 7) (.const (.int .i64 1)) 3, none⟩,
  ⟨some 4, .assign (.tmp 8), none⟩])))))) (.seq (.reg []
  [⟨some 14, .move (.tmp 3), none⟩,
  ⟨some 2, .assign (.tmp 14), none⟩]) (.ret))))
def ms42_0 : List Nat := [1, 3, 4, 5, 6, 7, 8, 9, 10, 11, 12, 13]
theorem ls42 : Tryd.f42.body.map (strip Tryd.prog impCodA) = some lc42 := by kernel_rfl
theorem lcall42 {args : List AV} (hargs : args.length ≤ 15) {H0 : AHeap} (lo : Nat) (hlo : H0.length ≤ lo) {r0 : AV} {H0' : AHeap}
    (h : lavc Tryd.prog glob lc42 (args ++ List.replicate (15 - args.length) (.v undef)) H0 fun e t H => (e = .normal ∨ e = .ret) ∧ aret Tryd.prog t H [Go.ResultVar.tmp 2] fun r => Fin lo H r r0 H0') :
    ACall Tryd.prog glob (H0.length == 0) 42 args H0 r0 H0' := LCall' ctx Tryd.func42 (by kernel_rfl) ls42 (by kernel_rfl) (by kernel_rfl) hargs lo hlo h
/-- escutcheon/escutcheonref21.Days -/
def lc43 : LCode := .seq (.reg []
  [⟨some 4, .assign (.const (.int .i64 0)), none⟩]) (.seq (.seq (.reg []
  [⟨some 5, .move (.tmp 0), none⟩,
  ⟨some 6, .binOp .lss 3 (.tmp 5) (.const (.int .i64 0)) 3, none⟩,
  ⟨some 7, .move (.tmp 6), none⟩,
  ⟨some 8, .move (.tmp 0), (some (7, false))⟩,
  ⟨some 9, .binOp .gtr 3 (.tmp 8) (.const (.int .i64 9999)) 3, (some (7, false))⟩,
  ⟨some 10, .pick (.tmp 7) (.const (.bool true)) (.tmp 9), none⟩,
  ⟨some 11, .move (.tmp 10), none⟩,
  ⟨some 12, .move (.tmp 1), (some (11, false))⟩,
  ⟨some 13, .binOp .lss 3 (.tmp 12) (.const (.int .i64 1)) 3, (some (11, false))⟩,
  ⟨some 14, .pick (.tmp 11) (.const (.bool true)) (.tmp 13), none⟩,
  ⟨some 15, .move (.tmp 14), none⟩,
  ⟨some 16, .move (.tmp 1), (some (15, false))⟩,
  ⟨some 17, .binOp .gtr 3 (.tmp 16) (.const (.int .i64 12)) 3, (some (15, false))⟩,
  ⟨some 18, .pick (.tmp 15) (.const (.bool true)) (.tmp 17), none⟩]) (.cond (.tmp 18) (.seq (.reg []
  [⟨some 4, .assign (.const (.int .i64 0)), none⟩]) (.ret)) (.skip))) (.seq (.seq (.reg []
  [⟨some 19, .move (.tmp 1), none⟩,
  ⟨some 20, .binOp .eql 3 (.tmp 19) (.const (.int .i64 2)) 3, none⟩]) (.cond (.tmp 20) (.seq (.seq (.reg []
  [⟨some 21, .move (.tmp 0), none⟩,
  ⟨some 22, .binOp .rem 3 (.tmp 21) (.const (.int .i64 400)) 3, none⟩,
  ⟨some 23, .binOp .eql 3 (.tmp 22) (.const (.int .i64 0)) 3, none⟩,
  ⟨some 24, .move (.tmp 23), none⟩,
  ⟨some 25, .move (.tmp 0), (some (24, false))⟩,
  ⟨some 26, .binOp .rem 3 (.tmp 25) (.const (.int .i64 4)) 3, (some (24, false))⟩,
  ⟨some 27, .binOp .eql 3 (.tmp 26) (.const (.int .i64 0)) 3, (some (24, false))⟩,
  ⟨some 28, .move (.tmp 27), (some (24, false))⟩,
  ⟨some 29, .move (.tmp 0), (some (28, true))⟩,
  ⟨some 30, .binOp .rem 3 (.tmp 29) (.const (.int .i64 100)) 3, (some (28, true))⟩,
  ⟨some 31, .binOp .neq 3 (.tmp 30) (.const (.int .i64 0)) 3, (some (28, true))⟩,
  ⟨some 32, .pick (.tmp 28) (.tmp 31) (.const (.bool false)), (some (24, false))⟩,
  ⟨some 33, .pick (.tmp 24) (.const (.bool true)) (.tmp 32), none⟩]) (.cond (.tmp 33) (.seq (.reg []
  [⟨some 4, .assign (.const (.int .i64 29)), none⟩]) (.ret)) (.skip))) (.seq (.reg []
  [⟨some 4, .assign (.const (.int .i64 28)), none⟩]) (.ret))) (.skip))) (.seq (.seq (.reg []
  [⟨some 34, .move (.tmp 1), none⟩,
  ⟨some 35, .binOp .eql 3 (.tmp 34) (.const (.int .i64 4)) 3, none⟩,
  ⟨some 36, .move (.tmp 35), none⟩,
  ⟨some 37, .move (.tmp 1), (some (36, false))⟩,
  ⟨some 38, .binOp .eql 3 (.tmp 37) (.const (.int .i64 6)) 3, (some (36, false))⟩,
  ⟨some 39, .pick (.tmp 36) (.const (.bool true)) (.tmp 38), none⟩,
  ⟨some 40, .move (.tmp 39), none⟩,
  ⟨some 41, .move (.tmp 1), (some (40, false))⟩,
  ⟨some 42, .binOp .eql 3 (.tmp 41) (.const (.int .i64 9)) 3, (some (40, false))⟩,
  ⟨some 43, .pick (.tmp 40) (.const (.bool true)) (.tmp 42), none⟩,
  ⟨some 44, .move (.tmp 43), none⟩,
  ⟨some 45, .move (.tmp 1), (some (44, false))⟩,
  ⟨some 46, .binOp .eql 3 (.tmp 45) (.const (.int .i64 11)) 3, (some (44, false))⟩,
  ⟨some 47, .pick (.tmp 44) (.const (.bool true)) (.tmp 46), none⟩]) (.cond (.tmp 47) (.seq (.reg []
  [⟨some 4, .assign (.const (.int .i64 30)), none⟩]) (.ret)) (.skip))) (.seq (.reg []
  [⟨some 4, .assign (.const (.int .i64 31)), none⟩]) (.ret)))))
theorem ls43 : Tryd.f43.body.map (strip Tryd.prog impCodA) = some lc43 := by kernel_rfl
theorem lcall43 {args : List AV} (hargs : args.length ≤ 48) {H0 : AHeap} (lo : Nat) (hlo : H0.length ≤ lo) {r0 : AV} {H0' : AHeap}
    (h : lavc Tryd.prog glob lc43 (args ++ List.replicate (48 - args.length) (.v undef)) H0 fun e t H => (e = .normal ∨ e = .ret) ∧ aret Tryd.prog t H [Go.ResultVar.tmp 4] fun r => Fin lo H r r0 H0') :
    ACall Tryd.prog glob (H0.length == 0) 43 args H0 r0 H0' := LCall' ctx Tryd.func43 (by kernel_rfl) ls43 (by kernel_rfl) (by kernel_rfl) hargs lo hlo h
/-- escutcheon/hour.Read -/
def lc45 : LCode := .seq (.reg []
  [⟨some 2, .assign (.const (.int .i64 0)), none⟩,
  ⟨some 3, .assign (.const (.int .i64 0)), none⟩]) (.seq (.reg [⟨some 10, .move (.tmp 0), none⟩,
  ⟨some 11, .move (.tmp 0), none⟩,
  ⟨some 12, .call { callee := .builtin .len, args := #[.tmp 11], argTypes := #[9] }, none⟩,
  ⟨some 13, .call { callee := .builtin .min, args := #[.tmp 12, .const (.int .i64 19)], argTypes := #[3, 3] }, none⟩,
  ⟨some 14, .slice 9 (.tmp 10) none (some (.tmp 13)) none, none⟩,
  ⟨some 15, .move (.tmp 0), none⟩,
  ⟨some 16, .move (.tmp 0), none⟩,
  ⟨some 17, .call { callee := .builtin .len, args := #[.tmp 16], argTypes := #[9] }, none⟩,
  ⟨some 18, .call { callee := .builtin .min, args := #[.tmp 17, .const (.int .i64 19)], argTypes := #[3, 3] }, none⟩,
  ⟨some 19, .slice 9 (.tmp 15) (some (.tmp 18)) none none, none⟩,
  ⟨some 4, .assign (.tmp 14), none⟩,
  ⟨some 5, .assign (.tmp 19), none⟩]
  []) (.seq (.seq (.reg []
  [⟨some 20, .move (.tmp 4), none⟩,
  ⟨some 21, .call { callee := .value (.func 59), args := #[.tmp 20, .const (.string { data := #[100, 100, 100, 100, 45, 100, 100, 45, 100, 100, 84, 100, 100, 58, 100, 100, 58, 100, 100] })], argTypes := #[9, 9] }, none⟩,
  ⟨some 22, .unOp .not 4 (.tmp 21), none⟩,
  ⟨some 23, .move (.tmp 22), none⟩,
  ⟨some 24, .move (.tmp 5), (some (23, false))⟩,
  ⟨some 25, .binOp .neq 9 (.tmp 24) (.const (.string { data := #[90] })) 9, (some (23, false))⟩,
  ⟨some 26, .move (.tmp 25), (some (23, false))⟩,
  ⟨some 27, .move (.tmp 5), (some (26, true))⟩,
  ⟨some 28, .call { callee := .value (.func 59), args := #[.tmp 27, .const (.string { data := #[43, 100, 100, 58, 100, 100] })], argTypes := #[9, 9] }, (some (26, true))⟩,
  ⟨some 29, .unOp .not 4 (.tmp 28), (some (26, true))⟩,
  ⟨some 30, .pick (.tmp 26) (.tmp 29) (.const (.bool false)), (some (23, false))⟩,
  ⟨some 31, .move (.tmp 30), (some (23, false))⟩,
  ⟨some 32, .move (.tmp 5), (some (31, true))⟩,
  ⟨some 33, .call { callee := .value (.func 59), args := #[.tmp 32, .const (.string { data := #[45, 100, 100, 58, 100, 100] })], argTypes := #[9, 9] }, (some (31, true))⟩,
  ⟨some 34, .unOp .not 4 (.tmp 33), (some (31, true))⟩,
  ⟨some 35, .pick (.tmp 31) (.tmp 34) (.const (.bool false)), (some (23, false))⟩,
  ⟨some 36, .pick (.tmp 23) (.const (.bool true)) (.tmp 35), none⟩]) (.cond (.tmp 36) (.seq (.reg []
  [⟨some 2, .assign (.const (.int .i64 0)), none⟩,
  ⟨some 3, .assign (.const (.int .i64 2)), none⟩]) (.ret)) (.skip))) (.seq (.reg [⟨some 37, .move (.tmp 0), none⟩,
  ⟨some 38, .slice 9 (.tmp 37) none (some (.const (.int .i64 4))) none, none⟩,
  ⟨some 39, .call { callee := .value (.func 60), args := #[.tmp 38], argTypes := #[9] }, none⟩,
  ⟨some 40, .move (.tmp 0), none⟩,
  ⟨some 41, .slice 9 (.tmp 40) (some (.const (.int .i64 5))) (some (.const (.int .i64 7))) none, none⟩,
  ⟨some 42, .call { callee := .value (.func 60), args := #[.tmp 41], argTypes := #[9] }, none⟩,
  ⟨some 43, .move (.tmp 0), none⟩,
  ⟨some 44, .slice 9 (.tmp 43) (some (.const (.int .i64 8))) (some (.const (.int .i64 10))) none, none⟩,
  ⟨some 45, .call { callee := .value (.func 60), args := #[.tmp 44], argTypes := #[9] }, none⟩,
  ⟨some 46, .build 56 #[(0, .tmp 39), (1, .tmp 42), (2, .tmp 45)], none⟩,
  ⟨some 47, .move (.tmp 0), none⟩,
  ⟨some 48, .slice 9 (.tmp 47) (some (.const (.int .i64 11))) (some (.const (.int .i64 13))) none, none⟩,
  ⟨some 49, .call { callee := .value (.func 60), args := #[.tmp 48], argTypes := #[9] }, none⟩,
  ⟨some 50, .move (.tmp 0), none⟩,
  ⟨some 51, .slice 9 (.tmp 50) (some (.const (.int .i64 14))) (some (.const (.int .i64 16))) none, none⟩,
  ⟨some 52, .call { callee := .value (.func 60), args := #[.tmp 51], argTypes := #[9] }, none⟩,
  ⟨some 53, .move (.tmp 0), none⟩,
  ⟨some 54, .slice 9 (.tmp 53) (some (.const (.int .i64 17))) (some (.const (.int .i64 19))) none, none⟩,
  ⟨some 55, .call { callee := .value (.func 60), args := #[.tmp 54], argTypes := #[9] }, none⟩,
  ⟨some 56, .build 58 #[(0, .tmp 46), (1, .tmp 49), (2, .tmp 52), (3, .tmp 55)], none⟩,
  ⟨some 6, .alloc 58, none⟩]
  [⟨none, .store 58 (.tmp 6) (.tmp 56), none⟩]) (.seq (.reg []
  [⟨some 7, .assign (.const (.int .i64 0)), none⟩]) (.seq (.seq (.reg []
  [⟨some 57, .move (.tmp 5), none⟩,
  ⟨some 58, .binOp .neq 9 (.tmp 57) (.const (.string { data := #[90] })) 9, none⟩]) (.cond (.tmp 58) (.seq (.reg [⟨some 59, .move (.tmp 5), none⟩,
  ⟨some 60, .slice 9 (.tmp 59) (some (.const (.int .i64 1))) (some (.const (.int .i64 3))) none, none⟩,
  ⟨some 61, .call { callee := .value (.func 60), args := #[.tmp 60], argTypes := #[9] }, none⟩,
  ⟨some 62, .move (.tmp 5), none⟩,
  ⟨some 63, .slice 9 (.tmp 62) (some (.const (.int .i64 4))) none none, none⟩,
  ⟨some 64, .call { callee := .value (.func 60), args := #[.tmp 63], argTypes := #[9] }, none⟩,
  ⟨some 8, .assign (.tmp 61), none⟩,
  ⟨some 9, .assign (.tmp 64), none⟩]
  []) (.seq (.seq (.reg []
  [⟨some 65, .move (.tmp 8), none⟩,
  ⟨some 66, .binOp .gtr 3 (.tmp 65) (.const (.int .i64 23)) 3, none⟩,
  ⟨some 67, .move (.tmp 66), none⟩,
  ⟨some 68, .move (.tmp 9), (some (67, false))⟩,
  ⟨some 69, .binOp .gtr 3 (.tmp 68) (.const (.int .i64 59)) 3, (some (67, false))⟩,
  ⟨some 70, .pick (.tmp 67) (.const (.bool true)) (.tmp 69), none⟩]) (.cond (.tmp 70) (.seq (.reg []
  [⟨some 2, .assign (.const (.int .i64 0)), none⟩,
  ⟨some 3, .assign (.const (.int .i64 12)), none⟩]) (.ret)) (.skip))) (.reg []
  [⟨some 71, .move (.tmp 8), none⟩,
  ⟨some 72, .binOp .mul 3 (.tmp 71) (.const (.int .i64 3600)) 3, none⟩,
  ⟨some 73, .move (.tmp 9), none⟩,
  ⟨some 74, .binOp .mul 3 (.tmp 73) (.const (.int .i64 60)) 3, none⟩,
  ⟨some 75, .binOp .add 3 (.tmp 72) (.tmp 74) 3, none⟩,
  ⟨some 7, .assign (.tmp 75), none⟩]))) (.skip))) (.seq (.seq (.reg []
  [⟨some 76, .move (.tmp 5), none⟩,
  ⟨some 77, .index 9 (.tmp 76) (.const (.int .i64 0)), none⟩,
  ⟨some 78, .binOp .eql 5 (.tmp 77) (.const (.int .u8 43)) 5, none⟩]) (.cond (.tmp 78) (.reg []
  [⟨some 79, .move (.tmp 7), none⟩,
  ⟨some 80, .unOp .neg 3 (.tmp 79), none⟩,
  ⟨some 7, .assign (.tmp 80), none⟩]) (.skip))) (.seq (.seq (.reg []
  [⟨some 81, .load 58 (.tmp 6), none⟩,
  ⟨some 82, .call { callee := .value (.func 61), args := #[.tmp 81], argTypes := #[58] }, none⟩,
  ⟨some 83, .unOp .not 4 (.tmp 82), none⟩,
  ⟨some 84, .move (.tmp 83), none⟩,
  ⟨some 85, .load 58 (.tmp 6), (some (84, false))⟩,
  ⟨some 86, .call { callee := .value (.func 62), args := #[.tmp 85], argTypes := #[58] }, (some (84, false))⟩,
  ⟨some 87, .move (.tmp 7), (some (84, false))⟩,
  ⟨some 88, .binOp .add 3 (.tmp 86) (.tmp 87) 3, (some (84, false))⟩,
  ⟨some 89, .call { callee := .value (.func 18), args := #[.tmp 88], argTypes := #[3] }, (some (84, false))⟩,
  ⟨some 90, .unOp .not 4 (.tmp 89), (some (84, false))⟩,
  ⟨some 91, .pick (.tmp 84) (.const (.bool true)) (.tmp 90), none⟩]) (.cond (.tmp 91) (.seq (.reg []
  [⟨some 2, .assign (.const (.int .i64 0)), none⟩,
  ⟨some 3, .assign (.const (.int .i64 12)), none⟩]) (.ret)) (.skip))) (.seq (.reg []
  [⟨some 92, .load 58 (.tmp 6), none⟩,
  ⟨some 93, .call { callee := .value (.func 62), args := #[.tmp 92], argTypes := #[58] }, none⟩,
  ⟨some 94, .move (.tmp 7), none⟩,
  ⟨some 95, .binOp .add 3 (.tmp 93) (.tmp 94) 3, none⟩,
  ⟨some 2, .assign (.tmp 95), none⟩,
  ⟨some 3, .assign (.const (.int .i64 0)), none⟩]) (.ret)))))))))
theorem ls45 : Tryd.f45.body.map (strip Tryd.prog impCodA) = some lc45 := by kernel_rfl
theorem lcall45 {args : List AV} (hargs : args.length ≤ 96) {H0 : AHeap} (lo : Nat) (hlo : H0.length ≤ lo) {r0 : AV} {H0' : AHeap}
    (h : lavc Tryd.prog glob lc45 (args ++ List.replicate (96 - args.length) (.v undef)) H0 fun e t H => (e = .normal ∨ e = .ret) ∧ aret Tryd.prog t H [Go.ResultVar.tmp 2, Go.ResultVar.tmp 3] fun r => Fin lo H r r0 H0') :
    ACall Tryd.prog glob (H0.length == 0) 45 args H0 r0 H0' := LCall' ctx Tryd.func45 (by kernel_rfl) ls45 (by kernel_rfl) (by kernel_rfl) hargs lo hlo h
/-- escutcheon/hour.leap -/
def lc46 : LCode := .seq (.reg []
  [⟨some 2, .assign (.const (.bool false)), none⟩]) (.seq (.reg []
  [⟨some 3, .move (.tmp 0), none⟩,
  ⟨some 4, .binOp .rem 3 (.tmp 3) (.const (.int .i64 4)) 3, none⟩,
  ⟨some 5, .binOp .eql 3 (.tmp 4) (.const (.int .i64 0)) 3, none⟩,
  ⟨some 6, .move (.tmp 5), none⟩,
  ⟨some 7, .move (.tmp 0), (some (6, true))⟩,
  ⟨some 8, .binOp .rem 3 (.tmp 7) (.const (.int .i64 100)) 3, (some (6, true))⟩,
  ⟨some 9, .binOp .neq 3 (.tmp 8) (.const (.int .i64 0)) 3, (some (6, true))⟩,
  ⟨some 10, .move (.tmp 9), (some (6, true))⟩,
  ⟨some 11, .move (.tmp 0), (some (10, false))⟩,
  ⟨some 12, .binOp .rem 3 (.tmp 11) (.const (.int .i64 400)) 3, (some (10, false))⟩,
  ⟨some 13, .binOp .eql 3 (.tmp 12) (.const (.int .i64 0)) 3, (some (10, false))⟩,
  ⟨some 14, .pick (.tmp 10) (.const (.bool true)) (.tmp 13), (some (6, true))⟩,
  ⟨some 15, .pick (.tmp 6) (.tmp 14) (.const (.bool false)), none⟩,
  ⟨some 2, .assign (.tmp 15), none⟩]) (.ret))
theorem ls46 : Tryd.f46.body.map (strip Tryd.prog impCodA) = some lc46 := by kernel_rfl
theorem lcall46 {args : List AV} (hargs : args.length ≤ 16) {H0 : AHeap} (lo : Nat) (hlo : H0.length ≤ lo) {r0 : AV} {H0' : AHeap}
    (h : lavc Tryd.prog glob lc46 (args ++ List.replicate (16 - args.length) (.v undef)) H0 fun e t H => (e = .normal ∨ e = .ret) ∧ aret Tryd.prog t H [Go.ResultVar.tmp 2] fun r => Fin lo H r r0 H0') :
    ACall Tryd.prog glob (H0.length == 0) 46 args H0 r0 H0' := LCall' ctx Tryd.func46 (by kernel_rfl) ls46 (by kernel_rfl) (by kernel_rfl) hargs lo hlo h
/-- internal/strconv.Itoa -/
def lc48 : LCode := .seq (.reg []
  [⟨some 2, .assign (.const (.string { data := #[] })), none⟩]) (.seq (.reg []
  [⟨some 3, .move (.tmp 0), none⟩,
  ⟨some 4, .call { callee := .value (.func 63), args := #[.tmp 3, .const (.int .i64 10)], argTypes := #[2, 3] }, none⟩,
  ⟨some 2, .assign (.tmp 4), none⟩]) (.ret))
theorem ls48 : Tryd.f48.body.map (strip Tryd.prog impCodA) = some lc48 := by kernel_rfl
theorem lcall48 {args : List AV} (hargs : args.length ≤ 5) {H0 : AHeap} (lo : Nat) (hlo : H0.length ≤ lo) {r0 : AV} {H0' : AHeap}
    (h : lavc Tryd.prog glob lc48 (args ++ List.replicate (5 - args.length) (.v undef)) H0 fun e t H => (e = .normal ∨ e = .ret) ∧ aret Tryd.prog t H [Go.ResultVar.tmp 2] fun r => Fin lo H r r0 H0') :
    ACall Tryd.prog glob (H0.length == 0) 48 args H0 r0 H0' := LCall' ctx Tryd.func48 (by kernel_rfl) ls48 (by kernel_rfl) (by kernel_rfl) hargs lo hlo h
/-- math/bits.Mul -/
def lc49 : LCode := .seq (.reg []
  [⟨some 4, .assign (.const (.int .u64 0)), none⟩,
  ⟨some 5, .assign (.const (.int .u64 0)), none⟩]) (.seq (.cond (.const (.bool false)) (.seq (.reg []
  [⟨some 11, .move (.tmp 0), none⟩,
  ⟨some 12, .convert 97 108 (.tmp 11), none⟩,
  ⟨some 13, .move (.tmp 1), none⟩,
  ⟨some 14, .convert 97 108 (.tmp 13), none⟩,
  ⟨some 15, .call { callee := .value (.func 64), args := #[.tmp 12, .tmp 14], argTypes := #[108, 108] }, none⟩,
  ⟨some 10, .move (.tmp 15), none⟩,
  ⟨some 16, .extract (.tmp 10) 0, none⟩,
  ⟨some 17, .extract (.tmp 10) 1, none⟩,
  ⟨some 6, .assign (.tmp 16), none⟩,
  ⟨some 7, .assign (.tmp 17), none⟩]) (.seq (.reg []
  [⟨some 18, .move (.tmp 6), none⟩,
  ⟨some 19, .convert 108 97 (.tmp 18), none⟩,
  ⟨some 20, .move (.tmp 7), none⟩,
  ⟨some 21, .convert 108 97 (.tmp 20), none⟩,
  ⟨some 4, .assign (.tmp 19), none⟩,
  ⟨some 5, .assign (.tmp 21), none⟩]) (.ret))) (.skip)) (.seq (.reg []
  [⟨some 23, .move (.tmp 0), none⟩,
  ⟨some 24, .move (.tmp 1), none⟩,
  ⟨some 25, .call { callee := .value (.func 65), args := #[.tmp 23, .tmp 24], argTypes := #[111, 111] }, none⟩,
  ⟨some 22, .move (.tmp 25), none⟩,
  ⟨some 26, .extract (.tmp 22) 0, none⟩,
  ⟨some 27, .extract (.tmp 22) 1, none⟩,
  ⟨some 8, .assign (.tmp 26), none⟩,
  ⟨some 9, .assign (.tmp 27), none⟩]) (.seq (.reg []
  [⟨some 28, .move (.tmp 8), none⟩,
  ⟨some 29, .move (.tmp 9), none⟩,
  ⟨some 4, .assign (.tmp 28), none⟩,
  ⟨some 5, .assign (.tmp 29), none⟩]) (.ret))))
theorem ls49 : Tryd.f49.body.map (strip Tryd.prog impCodA) = some lc49 := by kernel_rfl
theorem lcall49 {args : List AV} (hargs : args.length ≤ 30) {H0 : AHeap} (lo : Nat) (hlo : H0.length ≤ lo) {r0 : AV} {H0' : AHeap}
    (h : lavc Tryd.prog glob lc49 (args ++ List.replicate (30 - args.length) (.v undef)) H0 fun e t H => (e = .normal ∨ e = .ret) ∧ aret Tryd.prog t H [Go.ResultVar.tmp 4, Go.ResultVar.tmp 5] fun r => Fin lo H r r0 H0') :
    ACall Tryd.prog glob (H0.length == 0) 49 args H0 r0 H0' := LCall' ctx Tryd.func49 (by kernel_rfl) ls49 (by kernel_rfl) (by kernel_rfl) hargs lo hlo h
/-- strings.HasPrefix -/
def lc50 : LCode := .seq (.reg []
  [⟨some 4, .assign (.const (.bool false)), none⟩]) (.seq (.reg []
  [⟨some 5, .move (.tmp 0), none⟩,
  ⟨some 6, .move (.tmp 1), none⟩,
  ⟨some 7, .call { callee := .value (.func 66), args := #[.tmp 5, .tmp 6], argTypes := #[9, 9] }, none⟩,
  ⟨some 4, .assign (.tmp 7), none⟩]) (.ret))
theorem ls50 : Tryd.f50.body.map (strip Tryd.prog impCodA) = some lc50 := by kernel_rfl
theorem lcall50 {args : List AV} (hargs : args.length ≤ 8) {H0 : AHeap} (lo : Nat) (hlo : H0.length ≤ lo) {r0 : AV} {H0' : AHeap}
    (h : lavc Tryd.prog glob lc50 (args ++ List.replicate (8 - args.length) (.v undef)) H0 fun e t H => (e = .normal ∨ e = .ret) ∧ aret Tryd.prog t H [Go.ResultVar.tmp 4] fun r => Fin lo H r r0 H0') :
    ACall Tryd.prog glob (H0.length == 0) 50 args H0 r0 H0' := LCall' ctx Tryd.func50 (by kernel_rfl) ls50 (by kernel_rfl) (by kernel_rfl) hargs lo hlo h
/-- (*strings.Builder).Len -/
def lc52 : LCode := .seq (.reg []
  [⟨some 2, .assign (.const (.int .i64 0)), none⟩]) (.seq (.reg []
  [⟨some 3, .move (.tmp 0), none⟩,
  ⟨some 4, .nilCheck (.tmp 3), none⟩,
  ⟨some 5, .fieldAddr 63 (.tmp 4) 1, none⟩,
  ⟨some 6, .load 61 (.tmp 5), none⟩,
  ⟨some 7, .call { callee := .builtin .len, args := #[.tmp 6], argTypes := #[61] }, none⟩,
  ⟨some 2, .assign (.tmp 7), none⟩]) (.ret))
theorem ls52 : Tryd.f52.body.map (strip Tryd.prog impCodA) = some lc52 := by kernel_rfl
theorem lcall52 {args : List AV} (hargs : args.length ≤ 8) {H0 : AHeap} (lo : Nat) (hlo : H0.length ≤ lo) {r0 : AV} {H0' : AHeap}
    (h : lavc Tryd.prog glob lc52 (args ++ List.replicate (8 - args.length) (.v undef)) H0 fun e t H => (e = .normal ∨ e = .ret) ∧ aret Tryd.prog t H [Go.ResultVar.tmp 2] fun r => Fin lo H r r0 H0') :
    ACall Tryd.prog glob (H0.length == 0) 52 args H0 r0 H0' := LCall' ctx Tryd.func52 (by kernel_rfl) ls52 (by kernel_rfl) (by kernel_rfl) hargs lo hlo h
/-- escutcheon/hour.fits -/
def lc59 : LCode := .seq (.reg []
  [⟨some 4, .assign (.const (.bool false)), none⟩]) (.seq (.seq (.reg []
  [⟨some 7, .move (.tmp 0), none⟩,
  ⟨some 8, .call { callee := .builtin .len, args := #[.tmp 7], argTypes := #[9] }, none⟩,
  ⟨some 9, .move (.const (.int .i64 0)), none⟩]) (.block 0 (.loop (.seq (.reg []
  [⟨some 10, .binOp .lss 3 (.tmp 9) (.tmp 8) 3, none⟩]) (.seq (.cond (.tmp 10) (.skip) (.exit 0)) (.seq (.block 1 (.seq (.reg []
  [⟨some 11, .move (.tmp 9), none⟩,
  ⟨some 5, .assign (.tmp 11), none⟩]) (.seq (.reg []
  [⟨some 12, .move (.tmp 0), none⟩,
  ⟨some 13, .move (.tmp 5), none⟩,
  ⟨some 14, .index 9 (.tmp 12) (.tmp 13), none⟩,
  ⟨some 15, .binOp .geq 5 (.tmp 14) (.const (.int .u8 48)) 5, none⟩,
  ⟨some 16, .move (.tmp 15), none⟩,
  ⟨some 17, .move (.tmp 0), (some (16, true))⟩,
  ⟨some 18, .move (.tmp 5), (some (16, true))⟩,
  ⟨some 19, .index 9 (.tmp 17) (.tmp 18), (some (16, true))⟩,
  ⟨some 20, .binOp .leq 5 (.tmp 19) (.const (.int .u8 57)) 5, (some (16, true))⟩,
  ⟨some 21, .pick (.tmp 16) (.tmp 20) (.const (.bool false)), none⟩,
  ⟨some 6, .assign (.tmp 21), none⟩]) (.seq (.reg [⟨some 22, .move (.tmp 5), none⟩,
  ⟨some 23, .move (.tmp 1), none⟩,
  ⟨some 24, .call { callee := .builtin .len, args := #[.tmp 23], argTypes := #[9] }, none⟩,
  ⟨some 25, .binOp .geq 3 (.tmp 22) (.tmp 24) 3, none⟩,
  ⟨some 26, .move (.tmp 25), none⟩,
  ⟨some 27, .move (.tmp 6), (some (26, false))⟩,
  ⟨some 28, .move (.tmp 1), (some (26, false))⟩,
  ⟨some 29, .move (.tmp 5), (some (26, false))⟩,
  ⟨some 30, .index 9 (.tmp 28) (.tmp 29), (some (26, false))⟩,
  ⟨some 31, .binOp .eql 5 (.tmp 30) (.const (.int .u8 100)) 5, (some (26, false))⟩,
  ⟨some 32, .binOp .neq 4 (.tmp 27) (.tmp 31) 4, (some (26, false))⟩,
  ⟨some 33, .pick (.tmp 26) (.const (.bool true)) (.tmp 32), none⟩,
  ⟨some 34, .move (.tmp 33), none⟩,
  ⟨some 35, .move (.tmp 6), (some (34, false))⟩,
  ⟨some 36, .unOp .not 4 (.tmp 35), (some (34, false))⟩,
  ⟨some 37, .move (.tmp 36), (some (34, false))⟩,
  ⟨some 38, .move (.tmp 0), (some (37, true))⟩,
  ⟨some 39, .move (.tmp 5), (some (37, true))⟩,
  ⟨some 40, .index 9 (.tmp 38) (.tmp 39), (some (37, true))⟩,
  ⟨some 41, .move (.tmp 1), (some (37, true))⟩,
  ⟨some 42, .move (.tmp 5), (some (37, true))⟩,
  ⟨some 43, .index 9 (.tmp 41) (.tmp 42), (some (37, true))⟩,
  ⟨some 44, .binOp .neq 5 (.tmp 40) (.tmp 43) 5, (some (37, true))⟩,
  ⟨some 45, .pick (.tmp 37) (.tmp 44) (.const (.bool false)), (some (34, false))⟩,
  ⟨some 46, .pick (.tmp 34) (.const (.bool true)) (.tmp 45), none⟩]
  []) (.cond (.tmp 46) (.seq (.reg []
  [⟨some 4, .assign (.const (.bool false)), none⟩]) (.ret)) (.skip)))))) (.reg []
  [⟨some 47, .binOp .add 3 (.tmp 9) (.const (.int .i64 1)) 3, none⟩,
  ⟨some 9, .move (.tmp 47), none⟩]))))))) (.seq (.reg []
  [⟨some 48, .move (.tmp 0), none⟩,
  ⟨some 49, .call { callee := .builtin .len, args := #[.tmp 48], argTypes := #[9] }, none⟩,
  ⟨some 50, .move (.tmp 1), none⟩,
  ⟨some 51, .call { callee := .builtin .len, args := #[.tmp 50], argTypes := #[9] }, none⟩,
  ⟨some 52, .binOp .eql 3 (.tmp 49) (.tmp 51) 3, none⟩,
  ⟨some 4, .assign (.tmp 52), none⟩]) (.ret)))
def ms59_0 : List Nat := [2, 3, 4, 5, 6, 7, 9, 10, 11, 12, 13, 14, 15, 16, 17, 18, 19, 20, 21, 22, 23, 24, 25, 26, 27, 28, 29, 30, 31, 32, 33, 34, 35, 36, 37, 38, 39, 40, 41, 42, 43, 44, 45, 46, 47]
theorem ls59 : Tryd.f59.body.map (strip Tryd.prog impCodA) = some lc59 := by kernel_rfl
theorem lcall59 {args : List AV} (hargs : args.length ≤ 53) {H0 : AHeap} (lo : Nat) (hlo : H0.length ≤ lo) {r0 : AV} {H0' : AHeap}
    (h : lavc Tryd.prog glob lc59 (args ++ List.replicate (53 - args.length) (.v undef)) H0 fun e t H => (e = .normal ∨ e = .ret) ∧ aret Tryd.prog t H [Go.ResultVar.tmp 4] fun r => Fin lo H r r0 H0') :
    ACall Tryd.prog glob (H0.length == 0) 59 args H0 r0 H0' := LCall' ctx Tryd.func59 (by kernel_rfl) ls59 (by kernel_rfl) (by kernel_rfl) hargs lo hlo h
/-- escutcheon/hour.number -/
def lc60 : LCode := .seq (.reg []
  [⟨some 2, .assign (.const (.int .i64 0)), none⟩]) (.seq (.reg []
  [⟨some 6, .move (.tmp 0), none⟩,
  ⟨some 7, .call { callee := .value (.func 71), args := #[.tmp 6], argTypes := #[9] }, none⟩,
  ⟨some 5, .move (.tmp 7), none⟩,
  ⟨some 8, .extract (.tmp 5) 0, none⟩,
  ⟨some 9, .extract (.tmp 5) 1, none⟩,
  ⟨some 3, .assign (.tmp 8), none⟩,
  ⟨some 4, .assign (.tmp 9), none⟩]) (.seq (.reg []
  [⟨some 10, .move (.tmp 3), none⟩,
  ⟨some 2, .assign (.tmp 10), none⟩]) (.ret)))
theorem ls60 : Tryd.f60.body.map (strip Tryd.prog impCodA) = some lc60 := by kernel_rfl
theorem lcall60 {args : List AV} (hargs : args.length ≤ 11) {H0 : AHeap} (lo : Nat) (hlo : H0.length ≤ lo) {r0 : AV} {H0' : AHeap}
    (h : lavc Tryd.prog glob lc60 (args ++ List.replicate (11 - args.length) (.v undef)) H0 fun e t H => (e = .normal ∨ e = .ret) ∧ aret Tryd.prog t H [Go.ResultVar.tmp 2] fun r => Fin lo H r r0 H0') :
    ACall Tryd.prog glob (H0.length == 0) 60 args H0 r0 H0' := LCall' ctx Tryd.func60 (by kernel_rfl) ls60 (by kernel_rfl) (by kernel_rfl) hargs lo hlo h
/-- (escutcheon/hour.moment).good -/
def lc61 : LCode := .seq (.reg []
  [⟨some 1, .box 58 (.tmp 0), none⟩,
  ⟨some 2, .assign (.const (.bool false)), none⟩]) (.seq (.reg [⟨some 3, .fieldAddr 58 (.tmp 1) 0, none⟩,
  ⟨some 4, .fieldAddr 56 (.tmp 3) 1, none⟩,
  ⟨some 5, .load 3 (.tmp 4), none⟩,
  ⟨some 6, .binOp .geq 3 (.tmp 5) (.const (.int .i64 1)) 3, none⟩,
  ⟨some 7, .move (.tmp 6), none⟩,
  ⟨some 8, .fieldAddr 58 (.tmp 1) 0, (some (7, true))⟩,
  ⟨some 9, .fieldAddr 56 (.tmp 8) 1, (some (7, true))⟩,
  ⟨some 10, .load 3 (.tmp 9), (some (7, true))⟩,
  ⟨some 11, .binOp .leq 3 (.tmp 10) (.const (.int .i64 12)) 3, (some (7, true))⟩,
  ⟨some 12, .pick (.tmp 7) (.tmp 11) (.const (.bool false)), none⟩,
  ⟨some 13, .move (.tmp 12), none⟩,
  ⟨some 14, .fieldAddr 58 (.tmp 1) 0, (some (13, true))⟩,
  ⟨some 15, .fieldAddr 56 (.tmp 14) 2, (some (13, true))⟩,
  ⟨some 16, .load 3 (.tmp 15), (some (13, true))⟩,
  ⟨some 17, .binOp .geq 3 (.tmp 16) (.const (.int .i64 1)) 3, (some (13, true))⟩,
  ⟨some 18, .pick (.tmp 13) (.tmp 17) (.const (.bool false)), none⟩,
  ⟨some 19, .move (.tmp 18), none⟩,
  ⟨some 20, .fieldAddr 58 (.tmp 1) 0, (some (19, true))⟩,
  ⟨some 21, .fieldAddr 56 (.tmp 20) 2, (some (19, true))⟩,
  ⟨some 22, .load 3 (.tmp 21), (some (19, true))⟩,
  ⟨some 23, .fieldAddr 58 (.tmp 1) 0, (some (19, true))⟩,
  ⟨some 24, .fieldAddr 56 (.tmp 23) 0, (some (19, true))⟩,
  ⟨some 25, .load 3 (.tmp 24), (some (19, true))⟩,
  ⟨some 26, .fieldAddr 58 (.tmp 1) 0, (some (19, true))⟩,
  ⟨some 27, .fieldAddr 56 (.tmp 26) 1, (some (19, true))⟩,
  ⟨some 28, .load 3 (.tmp 27), (some (19, true))⟩,
  ⟨some 29, .call { callee := .value (.func 34), args := #[.tmp 25, .tmp 28], argTypes := #[3, 3] }, (some (19, true))⟩,
  ⟨some 30, .binOp .leq 3 (.tmp 22) (.tmp 29) 3, (some (19, true))⟩,
  ⟨some 31, .pick (.tmp 19) (.tmp 30) (.const (.bool false)), none⟩,
  ⟨some 32, .move (.tmp 31), none⟩,
  ⟨some 33, .fieldAddr 58 (.tmp 1) 1, (some (32, true))⟩,
  ⟨some 34, .load 3 (.tmp 33), (some (32, true))⟩,
  ⟨some 35, .binOp .leq 3 (.tmp 34) (.const (.int .i64 23)) 3, (some (32, true))⟩,
  ⟨some 36, .pick (.tmp 32) (.tmp 35) (.const (.bool false)), none⟩,
  ⟨some 37, .move (.tmp 36), none⟩,
  ⟨some 38, .fieldAddr 58 (.tmp 1) 2, (some (37, true))⟩,
  ⟨some 39, .load 3 (.tmp 38), (some (37, true))⟩,
  ⟨some 40, .binOp .leq 3 (.tmp 39) (.const (.int .i64 59)) 3, (some (37, true))⟩,
  ⟨some 41, .pick (.tmp 37) (.tmp 40) (.const (.bool false)), none⟩,
  ⟨some 42, .move (.tmp 41), none⟩,
  ⟨some 43, .fieldAddr 58 (.tmp 1) 3, (some (42, true))⟩,
  ⟨some 44, .load 3 (.tmp 43), (some (42, true))⟩,
  ⟨some 45, .binOp .leq 3 (.tmp 44) (.const (.int .i64 59)) 3, (some (42, true))⟩,
  ⟨some 46, .pick (.tmp 42) (.tmp 45) (.const (.bool false)), none⟩,
  ⟨some 2, .assign (.tmp 46), none⟩]
  []) (.ret))
theorem ls61 : Tryd.f61.body.map (strip Tryd.prog impCodA) = some lc61 := by kernel_rfl
theorem lcall61 {args : List AV} (hargs : args.length ≤ 47) {H0 : AHeap} (lo : Nat) (hlo : H0.length ≤ lo) {r0 : AV} {H0' : AHeap}
    (h : lavc Tryd.prog glob lc61 (args ++ List.replicate (47 - args.length) (.v undef)) H0 fun e t H => (e = .normal ∨ e = .ret) ∧ aret Tryd.prog t H [Go.ResultVar.tmp 2] fun r => Fin lo H r r0 H0') :
    ACall Tryd.prog glob (H0.length == 0) 61 args H0 r0 H0' := LCall' ctx Tryd.func61 (by kernel_rfl) ls61 (by kernel_rfl) (by kernel_rfl) hargs lo hlo h
/-- (escutcheon/hour.moment).seconds -/
def lc62 : LCode := .seq (.reg []
  [⟨some 1, .box 58 (.tmp 0), none⟩,
  ⟨some 2, .assign (.const (.int .i64 0)), none⟩]) (.seq (.reg [⟨some 3, .fieldAddr 58 (.tmp 1) 0, none⟩,
  ⟨some 4, .load 56 (.tmp 3), none⟩,
  ⟨some 5, .call { callee := .value (.func 72), args := #[.tmp 4], argTypes := #[56] }, none⟩,
  ⟨some 6, .binOp .sub 3 (.tmp 5) (.const (.int .i64 719528)) 3, none⟩,
  ⟨some 7, .binOp .mul 3 (.tmp 6) (.const (.int .i64 86400)) 3, none⟩,
  ⟨some 8, .fieldAddr 58 (.tmp 1) 1, none⟩,
  ⟨some 9, .load 3 (.tmp 8), none⟩,
  ⟨some 10, .binOp .mul 3 (.tmp 9) (.const (.int .i64 3600)) 3, none⟩,
  ⟨some 11, .binOp .add 3 (.tmp 7) (.tmp 10) 3, none⟩,
  ⟨some 12, .fieldAddr 58 (.tmp 1) 2, none⟩,
  ⟨some 13, .load 3 (.tmp 12), none⟩,
  ⟨some 14, .binOp .mul 3 (.tmp 13) (.const (.int .i64 60)) 3, none⟩,
  ⟨some 15, .binOp .add 3 (.tmp 11) (.tmp 14) 3, none⟩,
  ⟨some 16, .fieldAddr 58 (.tmp 1) 3, none⟩,
  ⟨some 17, .load 3 (.tmp 16), none⟩,
  ⟨some 18, .binOp .add 3 (.tmp 15) (.tmp 17) 3, none⟩,
  ⟨some 2, .assign (.tmp 18), none⟩]
  []) (.ret))
theorem ls62 : Tryd.f62.body.map (strip Tryd.prog impCodA) = some lc62 := by kernel_rfl
theorem lcall62 {args : List AV} (hargs : args.length ≤ 19) {H0 : AHeap} (lo : Nat) (hlo : H0.length ≤ lo) {r0 : AV} {H0' : AHeap}
    (h : lavc Tryd.prog glob lc62 (args ++ List.replicate (19 - args.length) (.v undef)) H0 fun e t H => (e = .normal ∨ e = .ret) ∧ aret Tryd.prog t H [Go.ResultVar.tmp 2] fun r => Fin lo H r r0 H0') :
    ACall Tryd.prog glob (H0.length == 0) 62 args H0 r0 H0' := LCall' ctx Tryd.func62 (by kernel_rfl) ls62 (by kernel_rfl) (by kernel_rfl) hargs lo hlo h
/-- internal/strconv.FormatInt -/
def lc63 : LCode := .seq (.reg []
  [⟨some 4, .assign (.const (.string { data := #[] })), none⟩]) (.seq (.seq (.reg []
  [⟨some 10, .move (.tmp 1), none⟩,
  ⟨some 11, .binOp .eql 3 (.tmp 10) (.const (.int .i64 10)) 3, none⟩]) (.cond (.tmp 11) (.seq (.seq (.reg []
  [⟨some 12, .move (.tmp 0), none⟩,
  ⟨some 13, .binOp .leq 2 (.const (.int .i64 0)) (.tmp 12) 2, none⟩,
  ⟨some 14, .move (.tmp 13), none⟩,
  ⟨some 15, .move (.tmp 0), (some (14, true))⟩,
  ⟨some 16, .binOp .lss 2 (.tmp 15) (.const (.int .i64 100)) 2, (some (14, true))⟩,
  ⟨some 17, .pick (.tmp 14) (.tmp 16) (.const (.bool false)), none⟩]) (.cond (.tmp 17) (.seq (.reg []
  [⟨some 18, .move (.tmp 0), none⟩,
  ⟨some 19, .call { callee := .value (.func 73), args := #[.tmp 18], argTypes := #[3] }, none⟩,
  ⟨some 4, .assign (.tmp 19), none⟩]) (.ret)) (.skip))) (.seq (.reg []
  [⟨some 5, .alloc 120, none⟩]) (.seq (.reg []
  [⟨some 20, .move (.tmp 0), none⟩,
  ⟨some 21, .convert 2 111 (.tmp 20), none⟩,
  ⟨some 6, .assign (.tmp 21), none⟩]) (.seq (.seq (.reg []
  [⟨some 22, .move (.tmp 0), none⟩,
  ⟨some 23, .binOp .lss 2 (.tmp 22) (.const (.int .i64 0)) 2, none⟩]) (.cond (.tmp 23) (.reg []
  [⟨some 24, .move (.tmp 6), none⟩,
  ⟨some 25, .unOp .neg 111 (.tmp 24), none⟩,
  ⟨some 6, .assign (.tmp 25), none⟩]) (.skip))) (.seq (.reg []
  [⟨some 26, .move (.tmp 6), none⟩,
  ⟨some 27, .call { callee := .value (.func 74), args := #[.tmp 26], argTypes := #[111] }, none⟩,
  ⟨some 7, .assign (.tmp 27), none⟩]) (.seq (.reg []
  [⟨some 28, .move (.tmp 7), none⟩,
  ⟨some 29, .binOp .add 3 (.const (.int .i64 1)) (.tmp 28) 3, none⟩,
  ⟨some 30, .slice 120 (.tmp 5) (some (.const (.int .i64 1))) (some (.tmp 29)) none, none⟩,
  ⟨some 31, .move (.tmp 6), none⟩,
  ⟨some 32, .call { callee := .value (.func 75), args := #[.tmp 30, .tmp 31], argTypes := #[61, 111] }, none⟩]) (.seq (.seq (.reg []
  [⟨some 33, .move (.tmp 0), none⟩,
  ⟨some 34, .binOp .lss 2 (.tmp 33) (.const (.int .i64 0)) 2, none⟩]) (.cond (.tmp 34) (.seq (.reg []
  [⟨some 35, .indexAddr 120 (.tmp 5) (.const (.int .i64 0)), none⟩,
  ⟨none, .store 5 (.tmp 35) (.const (.int .u8 45)), none⟩]) (.seq (.reg []
  [⟨some 36, .move (.tmp 7), none⟩,
  ⟨some 37, .binOp .add 3 (.const (.int .i64 1)) (.tmp 36) 3, none⟩,
  ⟨some 38, .slice 120 (.tmp 5) none (some (.tmp 37)) none, none⟩,
  ⟨some 39, .convert 61 9 (.tmp 38), none⟩,
  ⟨some 4, .assign (.tmp 39), none⟩]) (.ret))) (.skip))) (.seq (.reg []
  [⟨some 40, .move (.tmp 7), none⟩,
  ⟨some 41, .binOp .add 3 (.const (.int .i64 1)) (.tmp 40) 3, none⟩,
  ⟨some 42, .slice 120 (.tmp 5) (some (.const (.int .i64 1))) (some (.tmp 41)) none, none⟩,
  ⟨some 43, .convert 61 9 (.tmp 42), none⟩,
  ⟨some 4, .assign (.tmp 43), none⟩]) (.ret))))))))) (.skip))) (.seq (.reg []
  [⟨some 45, .move (.tmp 0), none⟩,
  ⟨some 46, .convert 2 111 (.tmp 45), none⟩,
  ⟨some 47, .move (.tmp 1), none⟩,
  ⟨some 48, .move (.tmp 0), none⟩,
  ⟨some 49, .binOp .lss 2 (.tmp 48) (.const (.int .i64 0)) 2, none⟩,
  ⟨some 50, .call { callee := .value (.func 76), args := #[.const (.slice none 0 0), .tmp 46, .tmp 47, .tmp 49, .const (.bool false)], argTypes := #[61, 111, 3, 4, 4] }, none⟩,
  ⟨some 44, .move (.tmp 50), none⟩,
  ⟨some 51, .extract (.tmp 44) 0, none⟩,
  ⟨some 52, .extract (.tmp 44) 1, none⟩,
  ⟨some 8, .assign (.tmp 51), none⟩,
  ⟨some 9, .assign (.tmp 52), none⟩]) (.seq (.reg []
  [⟨some 53, .move (.tmp 9), none⟩,
  ⟨some 4, .assign (.tmp 53), none⟩]) (.ret))))
theorem ls63 : Tryd.f63.body.map (strip Tryd.prog impCodA) = some lc63 := by kernel_rfl
theorem lcall63 {args : List AV} (hargs : args.length ≤ 54) {H0 : AHeap} (lo : Nat) (hlo : H0.length ≤ lo) {r0 : AV} {H0' : AHeap}
    (h : lavc Tryd.prog glob lc63 (args ++ List.replicate (54 - args.length) (.v undef)) H0 fun e t H => (e = .normal ∨ e = .ret) ∧ aret Tryd.prog t H [Go.ResultVar.tmp 4] fun r => Fin lo H r r0 H0') :
    ACall Tryd.prog glob (H0.length == 0) 63 args H0 r0 H0' := LCall' ctx Tryd.func63 (by kernel_rfl) ls63 (by kernel_rfl) (by kernel_rfl) hargs lo hlo h
/-- math/bits.Mul32 -/
def lc64 : LCode := .seq (.reg []
  [⟨some 4, .assign (.const (.int .u32 0)), none⟩,
  ⟨some 5, .assign (.const (.int .u32 0)), none⟩]) (.seq (.reg []
  [⟨some 7, .move (.tmp 0), none⟩,
  ⟨some 8, .convert 108 111 (.tmp 7), none⟩,
  ⟨some 9, .move (.tmp 1), none⟩,
  ⟨some 10, .convert 108 111 (.tmp 9), none⟩,
  ⟨some 11, .binOp .mul 111 (.tmp 8) (.tmp 10) 111, none⟩,
  ⟨some 6, .assign (.tmp 11), none⟩]) (.seq (.reg []
  [⟨some 12, .move (.tmp 6), none⟩,
  ⟨some 13, .binOp .shr 111 (.tmp 12) (.const (.int .u64 32)) 97, none⟩,
  ⟨some 14, .convert 111 108 (.tmp 13), none⟩,
  ⟨some 15, .move (.tmp 6), none⟩,
  ⟨some 16, .convert 111 108 (.tmp 15), none⟩,
  ⟨some 4, .assign (.tmp 14), none⟩,
  ⟨some 5, .assign (.tmp 16), none⟩]) (.ret)))
theorem ls64 : Tryd.f64.body.map (strip Tryd.prog impCodA) = some lc64 := by kernel_rfl
theorem lcall64 {args : List AV} (hargs : args.length ≤ 17) {H0 : AHeap} (lo : Nat) (hlo : H0.length ≤ lo) {r0 : AV} {H0' : AHeap}
    (h : lavc Tryd.prog glob lc64 (args ++ List.replicate (17 - args.length) (.v undef)) H0 fun e t H => (e = .normal ∨ e = .ret) ∧ aret Tryd.prog t H [Go.ResultVar.tmp 4, Go.ResultVar.tmp 5] fun r => Fin lo H r r0 H0') :
    ACall Tryd.prog glob (H0.length == 0) 64 args H0 r0 H0' := LCall' ctx Tryd.func64 (by kernel_rfl) ls64 (by kernel_rfl) (by kernel_rfl) hargs lo hlo h
/-- math/bits.Mul64 -/
def lc65 : LCode := .seq (.reg []
  [⟨some 4, .assign (.const (.int .u64 0)), none⟩,
  ⟨some 5, .assign (.const (.int .u64 0)), none⟩]) (.seq (.reg []
  [⟨some 14, .move (.tmp 0), none⟩,
  ⟨some 15, .binOp .and 111 (.tmp 14) (.const (.int .u64 4294967295)) 111, none⟩,
  ⟨some 6, .assign (.tmp 15), none⟩]) (.seq (.reg []
  [⟨some 16, .move (.tmp 0), none⟩,
  ⟨some 17, .binOp .shr 111 (.tmp 16) (.const (.int .u64 32)) 97, none⟩,
  ⟨some 7, .assign (.tmp 17), none⟩]) (.seq (.reg []
  [⟨some 18, .move (.tmp 1), none⟩,
  ⟨some 19, .binOp .and 111 (.tmp 18) (.const (.int .u64 4294967295)) 111, none⟩,
  ⟨some 8, .assign (.tmp 19), none⟩]) (.seq (.reg []
  [⟨some 20, .move (.tmp 1), none⟩,
  ⟨some 21, .binOp .shr 111 (.tmp 20) (.const (.int .u64 32)) 97, none⟩,
  ⟨some 9, .assign (.tmp 21), none⟩]) (.seq (.reg []
  [⟨some 22, .move (.tmp 6), none⟩,
  ⟨some 23, .move (.tmp 8), none⟩,
  ⟨some 24, .binOp .mul 111 (.tmp 22) (.tmp 23) 111, none⟩,
  ⟨some 10, .assign (.tmp 24), none⟩]) (.seq (.reg []
  [⟨some 25, .move (.tmp 7), none⟩,
  ⟨some 26, .move (.tmp 8), none⟩,
  ⟨some 27, .binOp .mul 111 (.tmp 25) (.tmp 26) 111, none⟩,
  ⟨some 28, .move (.tmp 10), none⟩,
  ⟨some 29, .binOp .shr 111 (.tmp 28) (.const (.int .u64 32)) 97, none⟩,
  ⟨some 30, .binOp .add 111 (.tmp 27) (.tmp 29) 111, none⟩,
  ⟨some 11, .assign (.tmp 30), none⟩]) (.seq (.reg []
  [⟨some 31, .move (.tmp 11), none⟩,
  ⟨some 32, .binOp .and 111 (.tmp 31) (.const (.int .u64 4294967295)) 111, none⟩,
  ⟨some 12, .assign (.tmp 32), none⟩]) (.seq (.reg []
  [⟨some 33, .move (.tmp 11), none⟩,
  ⟨some 34, .binOp .shr 111 (.tmp 33) (.const (.int .u64 32)) 97, none⟩,
  ⟨some 13, .assign (.tmp 34), none⟩]) (.seq (.reg []
  [⟨some 35, .move (.tmp 12), none⟩,
  ⟨some 36, .move (.tmp 6), none⟩,
  ⟨some 37, .move (.tmp 9), none⟩,
  ⟨some 38, .binOp .mul 111 (.tmp 36) (.tmp 37) 111, none⟩,
  ⟨some 39, .binOp .add 111 (.tmp 35) (.tmp 38) 111, none⟩,
  ⟨some 12, .assign (.tmp 39), none⟩]) (.seq (.reg []
  [⟨some 40, .move (.tmp 7), none⟩,
  ⟨some 41, .move (.tmp 9), none⟩,
  ⟨some 42, .binOp .mul 111 (.tmp 40) (.tmp 41) 111, none⟩,
  ⟨some 43, .move (.tmp 13), none⟩,
  ⟨some 44, .binOp .add 111 (.tmp 42) (.tmp 43) 111, none⟩,
  ⟨some 45, .move (.tmp 12), none⟩,
  ⟨some 46, .binOp .shr 111 (.tmp 45) (.const (.int .u64 32)) 97, none⟩,
  ⟨some 47, .binOp .add 111 (.tmp 44) (.tmp 46) 111, none⟩,
  ⟨some 4, .assign (.tmp 47), none⟩]) (.seq (.reg []
  [⟨some 48, .move (.tmp 0), none⟩,
  ⟨some 49, .move (.tmp 1), none⟩,
  ⟨some 50, .binOp .mul 111 (.tmp 48) (.tmp 49) 111, none⟩,
  ⟨some 5, .assign (.tmp 50), none⟩]) (.ret))))))))))))
theorem ls65 : Tryd.f65.body.map (strip Tryd.prog impCodA) = some lc65 := by kernel_rfl
theorem lcall65 {args : List AV} (hargs : args.length ≤ 51) {H0 : AHeap} (lo : Nat) (hlo : H0.length ≤ lo) {r0 : AV} {H0' : AHeap}
    (h : lavc Tryd.prog glob lc65 (args ++ List.replicate (51 - args.length) (.v undef)) H0 fun e t H => (e = .normal ∨ e = .ret) ∧ aret Tryd.prog t H [Go.ResultVar.tmp 4, Go.ResultVar.tmp 5] fun r => Fin lo H r r0 H0') :
    ACall Tryd.prog glob (H0.length == 0) 65 args H0 r0 H0' := LCall' ctx Tryd.func65 (by kernel_rfl) ls65 (by kernel_rfl) (by kernel_rfl) hargs lo hlo h
/-- internal/stringslite.HasPrefix -/
def lc66 : LCode := .seq (.reg []
  [⟨some 4, .assign (.const (.bool false)), none⟩]) (.seq (.reg []
  [⟨some 5, .move (.tmp 0), none⟩,
  ⟨some 6, .call { callee := .builtin .len, args := #[.tmp 5], argTypes := #[9] }, none⟩,
  ⟨some 7, .move (.tmp 1), none⟩,
  ⟨some 8, .call { callee := .builtin .len, args := #[.tmp 7], argTypes := #[9] }, none⟩,
  ⟨some 9, .binOp .geq 3 (.tmp 6) (.tmp 8) 3, none⟩,
  ⟨some 10, .move (.tmp 9), none⟩,
  ⟨some 11, .move (.tmp 0), (some (10, true))⟩,
  ⟨some 12, .move (.tmp 1), (some (10, true))⟩,
  ⟨some 13, .call { callee := .builtin .len, args := #[.tmp 12], argTypes := #[9] }, (some (10, true))⟩,
  ⟨some 14, .slice 9 (.tmp 11) none (some (.tmp 13)) none, (some (10, true))⟩,
  ⟨some 15, .move (.tmp 1), (some (10, true))⟩,
  ⟨some 16, .binOp .eql 9 (.tmp 14) (.tmp 15) 9, (some (10, true))⟩,
  ⟨some 17, .pick (.tmp 10) (.tmp 16) (.const (.bool false)), none⟩,
  ⟨some 4, .assign (.tmp 17), none⟩]) (.ret))
theorem ls66 : Tryd.f66.body.map (strip Tryd.prog impCodA) = some lc66 := by kernel_rfl
theorem lcall66 {args : List AV} (hargs : args.length ≤ 18) {H0 : AHeap} (lo : Nat) (hlo : H0.length ≤ lo) {r0 : AV} {H0' : AHeap}
    (h : lavc Tryd.prog glob lc66 (args ++ List.replicate (18 - args.length) (.v undef)) H0 fun e t H => (e = .normal ∨ e = .ret) ∧ aret Tryd.prog t H [Go.ResultVar.tmp 4] fun r => Fin lo H r r0 H0') :
    ACall Tryd.prog glob (H0.length == 0) 66 args H0 r0 H0' := LCall' ctx Tryd.func66 (by kernel_rfl) ls66 (by kernel_rfl) (by kernel_rfl) hargs lo hlo h
/-- strconv.Atoi -/
def lc71 : LCode := .seq (.reg []
  [⟨some 2, .assign (.const (.int .i64 0)), none⟩,
  ⟨some 3, .assign (.const .nilIface), none⟩]) (.seq (.reg []
  [⟨some 7, .move (.tmp 0), none⟩,
  ⟨some 8, .call { callee := .value (.func 78), args := #[.tmp 7], argTypes := #[9] }, none⟩,
  ⟨some 6, .move (.tmp 8), none⟩,
  ⟨some 9, .extract (.tmp 6) 0, none⟩,
  ⟨some 10, .extract (.tmp 6) 1, none⟩,
  ⟨some 4, .assign (.tmp 9), none⟩,
  ⟨some 5, .assign (.tmp 10), none⟩]) (.seq (.seq (.reg []
  [⟨some 11, .move (.tmp 5), none⟩,
  ⟨some 12, .binOp .neq 65 (.tmp 11) (.const .nilIface) 65, none⟩]) (.cond (.tmp 12) (.seq (.reg []
  [⟨some 13, .move (.tmp 4), none⟩,
  ⟨some 14, .move (.tmp 0), none⟩,
  ⟨some 15, .move (.tmp 5), none⟩,
  ⟨some 16, .call { callee := .value (.func 79), args := #[.const (.string { data := #[65, 116, 111, 105] }), .tmp 14, .const (.int .i64 0), .const (.int .i64 0), .tmp 15], argTypes := #[9, 9, 3, 3, 65] }, none⟩,
  ⟨some 2, .assign (.tmp 13), none⟩,
  ⟨some 3, .assign (.tmp 16), none⟩]) (.ret)) (.skip))) (.seq (.reg []
  [⟨some 17, .move (.tmp 4), none⟩,
  ⟨some 2, .assign (.tmp 17), none⟩,
  ⟨some 3, .assign (.const .nilIface), none⟩]) (.ret))))
theorem ls71 : Tryd.f71.body.map (strip Tryd.prog impCodA) = some lc71 := by kernel_rfl
theorem lcall71 {args : List AV} (hargs : args.length ≤ 18) {H0 : AHeap} (lo : Nat) (hlo : H0.length ≤ lo) {r0 : AV} {H0' : AHeap}
    (h : lavc Tryd.prog glob lc71 (args ++ List.replicate (18 - args.length) (.v undef)) H0 fun e t H => (e = .normal ∨ e = .ret) ∧ aret Tryd.prog t H [Go.ResultVar.tmp 2, Go.ResultVar.tmp 3] fun r => Fin lo H r r0 H0') :
    ACall Tryd.prog glob (H0.length == 0) 71 args H0 r0 H0' := LCall' ctx Tryd.func71 (by kernel_rfl) ls71 (by kernel_rfl) (by kernel_rfl) hargs lo hlo h
/-- (escutcheon/hour.date).days -/
def lc72 : LCode := .seq (.reg []
  [⟨some 1, .box 56 (.tmp 0), none⟩,
  ⟨some 2, .assign (.const (.int .i64 0)), none⟩]) (.seq (.reg [⟨some 5, .fieldAddr 56 (.tmp 1) 0, none⟩,
  ⟨some 6, .load 3 (.tmp 5), none⟩,
  ⟨some 7, .call { callee := .value (.func 33), args := #[.tmp 6], argTypes := #[3] }, none⟩,
  ⟨some 8, .fieldAddr 56 (.tmp 1) 2, none⟩,
  ⟨some 9, .load 3 (.tmp 8), none⟩,
  ⟨some 10, .binOp .add 3 (.tmp 7) (.tmp 9) 3, none⟩,
  ⟨some 11, .binOp .sub 3 (.tmp 10) (.const (.int .i64 1)) 3, none⟩,
  ⟨some 3, .assign (.tmp 11), none⟩]
  []) (.seq (.seq (.reg []
  [⟨some 4, .assign (.const (.int .i64 1)), none⟩]) (.block 0 (.loop (.seq (.seq (.reg []
  [⟨some 12, .move (.tmp 4), none⟩,
  ⟨some 13, .fieldAddr 56 (.tmp 1) 1, none⟩,
  ⟨some 14, .load 3 (.tmp 13), none⟩,
  ⟨some 15, .binOp .lss 3 (.tmp 12) (.tmp 14) 3, none⟩]) (.cond (.tmp 15) (.skip) (.exit 0))) (.seq (.block 1 (.reg []
  [⟨some 18, .move (.tmp 3), none⟩,
  ⟨some 19, .fieldAddr 56 (.tmp 1) 0, none⟩,
  ⟨some 20, .load 3 (.tmp 19), none⟩,
  ⟨some 21, .move (.tmp 4), none⟩,
  ⟨some 22, .call { callee := .value (.func 34), args := #[.tmp 20, .tmp 21], argTypes := #[3, 3] }, none⟩,
  ⟨some 23, .binOp .add 3 (.tmp 18) (.tmp 22) 3, none⟩,
  ⟨some 3, .assign (.tmp 23), none⟩])) (.reg []
  [⟨some 16, .move (.tmp 4), none⟩,
  ⟨some 17, .binOp .add 3 (.tmp 16) (.const (.int .i64 1)) 3, none⟩,
  ⟨some 4, .assign (.tmp 17), none⟩])))))) (.seq (.reg []
  [⟨some 24, .move (.tmp 3), none⟩,
  ⟨some 2, .assign (.tmp 24), none⟩]) (.ret))))
def ms72_0 : List Nat := [0, 3, 4, 5, 6, 7, 8, 9, 10, 11, 12, 13, 14, 15, 16, 17, 18, 19, 20, 21, 22, 23]
theorem ls72 : Tryd.f72.body.map (strip Tryd.prog impCodA) = some lc72 := by kernel_rfl
theorem lcall72 {args : List AV} (hargs : args.length ≤ 25) {H0 : AHeap} (lo : Nat) (hlo : H0.length ≤ lo) {r0 : AV} {H0' : AHeap}
    (h : lavc Tryd.prog glob lc72 (args ++ List.replicate (25 - args.length) (.v undef)) H0 fun e t H => (e = .normal ∨ e = .ret) ∧ aret Tryd.prog t H [Go.ResultVar.tmp 2] fun r => Fin lo H r r0 H0') :
    ACall Tryd.prog glob (H0.length == 0) 72 args H0 r0 H0' := LCall' ctx Tryd.func72 (by kernel_rfl) ls72 (by kernel_rfl) (by kernel_rfl) hargs lo hlo h
/-- internal/strconv.small -/
def lc73 : LCode := .seq (.reg []
  [⟨some 2, .assign (.const (.string { data := #[] })), none⟩]) (.seq (.seq (.reg []
  [⟨some 3, .move (.tmp 0), none⟩,
  ⟨some 4, .binOp .lss 3 (.tmp 3) (.const (.int .i64 10)) 3, none⟩]) (.cond (.tmp 4) (.seq (.reg []
  [⟨some 5, .move (.tmp 0), none⟩,
  ⟨some 6, .move (.tmp 0), none⟩,
  ⟨some 7, .binOp .add 3 (.tmp 6) (.const (.int .i64 1)) 3, none⟩,
  ⟨some 8, .slice 9 (.const (.string { data := #[48, 49, 50, 51, 52, 53, 54, 55, 56, 57, 97, 98, 99, 100, 101, 102, 103, 104, 105, 106, 107, 108, 109, 110, 111, 112, 113, 114, 115, 116, 117, 118, 119, 120, 121, 122] })) (some (.tmp 5)) (some (.tmp 7)) none, none⟩,
  ⟨some 2, .assign (.tmp 8), none⟩]) (.ret)) (.skip))) (.seq (.reg []
  [⟨some 9, .move (.tmp 0), none⟩,
  ⟨some 10, .binOp .mul 3 (.tmp 9) (.const (.int .i64 2)) 3, none⟩,
  ⟨some 11, .move (.tmp 0), none⟩,
  ⟨some 12, .binOp .mul 3 (.tmp 11) (.const (.int .i64 2)) 3, none⟩,
  ⟨some 13, .binOp .add 3 (.tmp 12) (.const (.int .i64 2)) 3, none⟩,
  ⟨some 14, .slice 9 (.const (.string { data := #[48, 48, 48, 49, 48, 50, 48, 51, 48, 52, 48, 53, 48, 54, 48, 55, 48, 56, 48, 57, 49, 48, 49, 49, 49, 50, 49, 51, 49, 52, 49, 53, 49, 54, 49, 55, 49, 56, 49, 57, 50, 48, 50, 49, 50, 50, 50, 51, 50, 52, 50, 53, 50, 54, 50, 55, 50, 56, 50, 57, 51, 48, 51, 49, 51, 50, 51, 51, 51, 52, 51, 53, 51, 54, 51, 55, 51, 56, 51, 57, 52, 48, 52, 49, 52, 50, 52, 51, 52, 52, 52, 53, 52, 54, 52, 55, 52, 56, 52, 57, 53, 48, 53, 49, 53, 50, 53, 51, 53, 52, 53, 53, 53, 54, 53, 55, 53, 56, 53, 57, 54, 48, 54, 49, 54, 50, 54, 51, 54, 52, 54, 53, 54, 54, 54, 55, 54, 56, 54, 57, 55, 48, 55, 49, 55, 50, 55, 51, 55, 52, 55, 53, 55, 54, 55, 55, 55, 56, 55, 57, 56, 48, 56, 49, 56, 50, 56, 51, 56, 52, 56, 53, 56, 54, 56, 55, 56, 56, 56, 57, 57, 48, 57, 49, 57, 50, 57, 51, 57, 52, 57, 53, 57, 54, 57, 55, 57, 56, 57, 57] })) (some (.tmp 10)) (some (.tmp 13)) none, none⟩,
  ⟨some 2, .assign (.tmp 14), none⟩]) (.ret)))
theorem ls73 : Tryd.f73.body.map (strip Tryd.prog impCodA) = some lc73 := by kernel_rfl
theorem lcall73 {args : List AV} (hargs : args.length ≤ 15) {H0 : AHeap} (lo : Nat) (hlo : H0.length ≤ lo) {r0 : AV} {H0' : AHeap}
    (h : lavc Tryd.prog glob lc73 (args ++ List.replicate (15 - args.length) (.v undef)) H0 fun e t H => (e = .normal ∨ e = .ret) ∧ aret Tryd.prog t H [Go.ResultVar.tmp 2] fun r => Fin lo H r r0 H0') :
    ACall Tryd.prog glob (H0.length == 0) 73 args H0 r0 H0' := LCall' ctx Tryd.func73 (by kernel_rfl) ls73 (by kernel_rfl) (by kernel_rfl) hargs lo hlo h
/-- internal/strconv.numDigits -/
def lc74 : LCode := .seq (.reg []
  [⟨some 2, .assign (.const (.int .i64 0)), none⟩]) (.seq (.reg []
  [⟨some 4, .move (.tmp 0), none⟩,
  ⟨some 5, .call { callee := .value (.func 81), args := #[.tmp 4], argTypes := #[111] }, none⟩,
  ⟨some 6, .call { callee := .value (.func 80), args := #[.tmp 5], argTypes := #[3] }, none⟩,
  ⟨some 3, .assign (.tmp 6), none⟩]) (.seq (.reg []
  [⟨some 7, .move (.tmp 3), none⟩,
  ⟨some 8, .move (.tmp 0), none⟩,
  ⟨some 9, .move (.tmp 3), none⟩,
  ⟨some 10, .indexAddr 128 (.global 3) (.tmp 9), none⟩,
  ⟨some 11, .load 111 (.tmp 10), none⟩,
  ⟨some 12, .binOp .geq 111 (.tmp 8) (.tmp 11) 111, none⟩,
  ⟨some 13, .call { callee := .value (.func 82), args := #[.tmp 12], argTypes := #[4] }, none⟩,
  ⟨some 14, .binOp .add 3 (.tmp 7) (.tmp 13) 3, none⟩,
  ⟨some 2, .assign (.tmp 14), none⟩]) (.ret)))
theorem ls74 : Tryd.f74.body.map (strip Tryd.prog impCodA) = some lc74 := by kernel_rfl
theorem lcall74 {args : List AV} (hargs : args.length ≤ 15) {H0 : AHeap} (lo : Nat) (hlo : H0.length ≤ lo) {r0 : AV} {H0' : AHeap}
    (h : lavc Tryd.prog glob lc74 (args ++ List.replicate (15 - args.length) (.v undef)) H0 fun e t H => (e = .normal ∨ e = .ret) ∧ aret Tryd.prog t H [Go.ResultVar.tmp 2] fun r => Fin lo H r r0 H0') :
    ACall Tryd.prog glob (H0.length == 0) 74 args H0 r0 H0' := LCall' ctx Tryd.func74 (by kernel_rfl) ls74 (by kernel_rfl) (by kernel_rfl) hargs lo hlo h
/-- internal/strconv.Atoi -/
def lc78 : LCode := .seq (.reg []
  [⟨some 2, .assign (.const (.int .i64 0)), none⟩,
  ⟨some 3, .assign (.const .nilIface), none⟩]) (.seq (.reg []
  [⟨some 11, .move (.tmp 0), none⟩,
  ⟨some 12, .call { callee := .builtin .len, args := #[.tmp 11], argTypes := #[9] }, none⟩,
  ⟨some 4, .assign (.tmp 12), none⟩]) (.seq (.seq (.reg []
  [⟨some 13, .move (.const (.bool false)), none⟩,
  ⟨some 14, .move (.tmp 4), (some (13, true))⟩,
  ⟨some 15, .binOp .lss 3 (.const (.int .i64 0)) (.tmp 14) 3, (some (13, true))⟩,
  ⟨some 16, .move (.tmp 15), (some (13, true))⟩,
  ⟨some 17, .move (.tmp 4), (some (16, true))⟩,
  ⟨some 18, .binOp .lss 3 (.tmp 17) (.const (.int .i64 10)) 3, (some (16, true))⟩,
  ⟨some 19, .pick (.tmp 16) (.tmp 18) (.const (.bool false)), (some (13, true))⟩,
  ⟨some 20, .pick (.tmp 13) (.tmp 19) (.const (.bool false)), none⟩,
  ⟨some 21, .move (.tmp 20), none⟩,
  ⟨some 22, .move (.const (.bool true)), (some (21, false))⟩,
  ⟨some 23, .move (.tmp 4), (some (22, true))⟩,
  ⟨some 24, .binOp .lss 3 (.const (.int .i64 0)) (.tmp 23) 3, (some (22, true))⟩,
  ⟨some 25, .move (.tmp 24), (some (22, true))⟩,
  ⟨some 26, .move (.tmp 4), (some (25, true))⟩,
  ⟨some 27, .binOp .lss 3 (.tmp 26) (.const (.int .i64 19)) 3, (some (25, true))⟩,
  ⟨some 28, .pick (.tmp 25) (.tmp 27) (.const (.bool false)), (some (22, true))⟩,
  ⟨some 29, .pick (.tmp 22) (.tmp 28) (.const (.bool false)), (some (21, false))⟩,
  ⟨some 30, .pick (.tmp 21) (.const (.bool true)) (.tmp 29), none⟩]) (.cond (.tmp 30) (.seq (.reg []
  [⟨some 31, .move (.tmp 0), none⟩,
  ⟨some 5, .assign (.tmp 31), none⟩]) (.seq (.seq (.reg []
  [⟨some 32, .move (.tmp 0), none⟩,
  ⟨some 33, .index 9 (.tmp 32) (.const (.int .i64 0)), none⟩,
  ⟨some 34, .binOp .eql 5 (.tmp 33) (.const (.int .u8 45)) 5, none⟩,
  ⟨some 35, .move (.tmp 34), none⟩,
  ⟨some 36, .move (.tmp 0), (some (35, false))⟩,
  ⟨some 37, .index 9 (.tmp 36) (.const (.int .i64 0)), (some (35, false))⟩,
  ⟨some 38, .binOp .eql 5 (.tmp 37) (.const (.int .u8 43)) 5, (some (35, false))⟩,
  ⟨some 39, .pick (.tmp 35) (.const (.bool true)) (.tmp 38), none⟩]) (.cond (.tmp 39) (.seq (.reg []
  [⟨some 40, .move (.tmp 0), none⟩,
  ⟨some 41, .slice 9 (.tmp 40) (some (.const (.int .i64 1))) none none, none⟩,
  ⟨some 0, .assign (.tmp 41), none⟩]) (.seq (.reg []
  [⟨some 42, .move (.tmp 0), none⟩,
  ⟨some 43, .call { callee := .builtin .len, args := #[.tmp 42], argTypes := #[9] }, none⟩,
  ⟨some 44, .binOp .lss 3 (.tmp 43) (.const (.int .i64 1)) 3, none⟩]) (.cond (.tmp 44) (.seq (.reg []
  [⟨some 45, .makeInterface 131 (.const (.int .i64 2)), none⟩,
  ⟨some 2, .assign (.const (.int .i64 0)), none⟩,
  ⟨some 3, .assign (.tmp 45), none⟩]) (.ret)) (.skip)))) (.skip))) (.seq (.reg []
  [⟨some 6, .assign (.const (.int .i64 0)), none⟩]) (.seq (.seq (.reg []
  [⟨some 46, .move (.tmp 0), none⟩,
  ⟨some 47, .convert 9 61 (.tmp 46), none⟩,
  ⟨some 48, .call { callee := .builtin .len, args := #[.tmp 47], argTypes := #[61] }, none⟩,
  ⟨some 49, .move (.const (.int .i64 0)), none⟩]) (.block 0 (.loop (.seq (.reg []
  [⟨some 50, .binOp .lss 3 (.tmp 49) (.tmp 48) 3, none⟩]) (.seq (.cond (.tmp 50) (.skip) (.exit 0)) (.seq (.block 1 (.seq (.reg []
  [⟨some 51, .indexAddr 61 (.tmp 47) (.tmp 49), none⟩,
  ⟨some 52, .load 5 (.tmp 51), none⟩,
  ⟨some 8, .assign (.tmp 52), none⟩]) (.seq (.reg []
  [⟨some 53, .move (.tmp 8), none⟩,
  ⟨some 54, .binOp .sub 5 (.tmp 53) (.const (.int .u8 48)) 5, none⟩,
  ⟨some 8, .assign (.tmp 54), none⟩]) (.seq (.seq (.reg []
  [⟨some 55, .move (.tmp 8), none⟩,
  ⟨some 56, .binOp .gtr 5 (.tmp 55) (.const (.int .u8 9)) 5, none⟩]) (.cond (.tmp 56) (.seq (.reg []
  [⟨some 57, .makeInterface 131 (.const (.int .i64 2)), none⟩,
  ⟨some 2, .assign (.const (.int .i64 0)), none⟩,
  ⟨some 3, .assign (.tmp 57), none⟩]) (.ret)) (.skip))) (.reg []
  [⟨some 58, .move (.tmp 6), none⟩,
  ⟨some 59, .binOp .mul 3 (.tmp 58) (.const (.int .i64 10)) 3, none⟩,
  ⟨some 60, .move (.tmp 8), none⟩,
  ⟨some 61, .convert 5 3 (.tmp 60), none⟩,
  ⟨some 62, .binOp .add 3 (.tmp 59) (.tmp 61) 3, none⟩,
  ⟨some 6, .assign (.tmp 62), none⟩]))))) (.reg []
  [⟨some 63, .binOp .add 3 (.tmp 49) (.const (.int .i64 1)) 3, none⟩,
  ⟨some 49, .move (.tmp 63), none⟩]))))))) (.seq (.seq (.reg []
  [⟨some 64, .move (.tmp 5), none⟩,
  ⟨some 65, .index 9 (.tmp 64) (.const (.int .i64 0)), none⟩,
  ⟨some 66, .binOp .eql 5 (.tmp 65) (.const (.int .u8 45)) 5, none⟩]) (.cond (.tmp 66) (.reg []
  [⟨some 67, .move (.tmp 6), none⟩,
  ⟨some 68, .unOp .neg 3 (.tmp 67), none⟩,
  ⟨some 6, .assign (.tmp 68), none⟩]) (.skip))) (.seq (.reg []
  [⟨some 69, .move (.tmp 6), none⟩,
  ⟨some 2, .assign (.tmp 69), none⟩,
  ⟨some 3, .assign (.const .nilIface), none⟩]) (.ret))))))) (.skip))) (.seq (.reg []
  [⟨some 71, .move (.tmp 0), none⟩,
  ⟨some 72, .call { callee := .value (.func 85), args := #[.tmp 71, .const (.int .i64 10), .const (.int .i64 0)], argTypes := #[9, 3, 3] }, none⟩,
  ⟨some 70, .move (.tmp 72), none⟩,
  ⟨some 73, .extract (.tmp 70) 0, none⟩,
  ⟨some 74, .extract (.tmp 70) 1, none⟩,
  ⟨some 9, .assign (.tmp 73), none⟩,
  ⟨some 10, .assign (.tmp 74), none⟩]) (.seq (.reg []
  [⟨some 75, .move (.tmp 9), none⟩,
  ⟨some 76, .move (.tmp 10), none⟩,
  ⟨some 2, .assign (.tmp 75), none⟩,
  ⟨some 3, .assign (.tmp 76), none⟩]) (.ret)))))
def ms78_0 : List Nat := [1, 2, 3, 4, 6, 7, 8, 11, 12, 13, 14, 15, 16, 17, 18, 19, 20, 21, 22, 23, 24, 25, 26, 27, 28, 29, 30, 31, 32, 33, 34, 35, 36, 37, 38, 39, 40, 41, 42, 43, 44, 45, 46, 49, 50, 51, 52, 53, 54, 55, 56, 57, 58, 59, 60, 61, 62, 63]
theorem ls78 : Tryd.f78.body.map (strip Tryd.prog impCodA) = some lc78 := by kernel_rfl
theorem lcall78 {args : List AV} (hargs : args.length ≤ 77) {H0 : AHeap} (lo : Nat) (hlo : H0.length ≤ lo) {r0 : AV} {H0' : AHeap}
    (h : lavc Tryd.prog glob lc78 (args ++ List.replicate (77 - args.length) (.v undef)) H0 fun e t H => (e = .normal ∨ e = .ret) ∧ aret Tryd.prog t H [Go.ResultVar.tmp 2, Go.ResultVar.tmp 3] fun r => Fin lo H r r0 H0') :
    ACall Tryd.prog glob (H0.length == 0) 78 args H0 r0 H0' := LCall' ctx Tryd.func78 (by kernel_rfl) ls78 (by kernel_rfl) (by kernel_rfl) hargs lo hlo h
/-- internal/strconv.log10Pow2 -/
def lc80 : LCode := .seq (.reg []
  [⟨some 2, .assign (.const (.int .i64 0)), none⟩]) (.seq (.reg []
  [⟨some 3, .move (.tmp 0), none⟩,
  ⟨some 4, .binOp .mul 3 (.tmp 3) (.const (.int .i64 78913)) 3, none⟩,
  ⟨some 5, .binOp .shr 3 (.tmp 4) (.const (.int .u64 18)) 97, none⟩,
  ⟨some 2, .assign (.tmp 5), none⟩]) (.ret))
theorem ls80 : Tryd.f80.body.map (strip Tryd.prog impCodA) = some lc80 := by kernel_rfl
theorem lcall80 {args : List AV} (hargs : args.length ≤ 6) {H0 : AHeap} (lo : Nat) (hlo : H0.length ≤ lo) {r0 : AV} {H0' : AHeap}
    (h : lavc Tryd.prog glob lc80 (args ++ List.replicate (6 - args.length) (.v undef)) H0 fun e t H => (e = .normal ∨ e = .ret) ∧ aret Tryd.prog t H [Go.ResultVar.tmp 2] fun r => Fin lo H r r0 H0') :
    ACall Tryd.prog glob (H0.length == 0) 80 args H0 r0 H0' := LCall' ctx Tryd.func80 (by kernel_rfl) ls80 (by kernel_rfl) (by kernel_rfl) hargs lo hlo h
/-- math/bits.Len64 -/
def lc81 : LCode := .seq (.reg []
  [⟨some 2, .assign (.const (.int .i64 0)), none⟩]) (.seq (.seq (.reg []
  [⟨some 3, .move (.tmp 0), none⟩,
  ⟨some 4, .binOp .geq 111 (.tmp 3) (.const (.int .u64 4294967296)) 111, none⟩]) (.cond (.tmp 4) (.seq (.reg []
  [⟨some 5, .move (.tmp 0), none⟩,
  ⟨some 6, .binOp .shr 111 (.tmp 5) (.const (.int .u64 32)) 97, none⟩,
  ⟨some 0, .assign (.tmp 6), none⟩]) (.reg []
  [⟨some 2, .assign (.const (.int .i64 32)), none⟩])) (.skip))) (.seq (.seq (.reg []
  [⟨some 7, .move (.tmp 0), none⟩,
  ⟨some 8, .binOp .geq 111 (.tmp 7) (.const (.int .u64 65536)) 111, none⟩]) (.cond (.tmp 8) (.seq (.reg []
  [⟨some 9, .move (.tmp 0), none⟩,
  ⟨some 10, .binOp .shr 111 (.tmp 9) (.const (.int .u64 16)) 97, none⟩,
  ⟨some 0, .assign (.tmp 10), none⟩]) (.reg []
  [⟨some 11, .move (.tmp 2), none⟩,
  ⟨some 12, .binOp .add 3 (.tmp 11) (.const (.int .i64 16)) 3, none⟩,
  ⟨some 2, .assign (.tmp 12), none⟩])) (.skip))) (.seq (.seq (.reg []
  [⟨some 13, .move (.tmp 0), none⟩,
  ⟨some 14, .binOp .geq 111 (.tmp 13) (.const (.int .u64 256)) 111, none⟩]) (.cond (.tmp 14) (.seq (.reg []
  [⟨some 15, .move (.tmp 0), none⟩,
  ⟨some 16, .binOp .shr 111 (.tmp 15) (.const (.int .u64 8)) 97, none⟩,
  ⟨some 0, .assign (.tmp 16), none⟩]) (.reg []
  [⟨some 17, .move (.tmp 2), none⟩,
  ⟨some 18, .binOp .add 3 (.tmp 17) (.const (.int .i64 8)) 3, none⟩,
  ⟨some 2, .assign (.tmp 18), none⟩])) (.skip))) (.seq (.reg []
  [⟨some 19, .move (.tmp 2), none⟩,
  ⟨some 20, .move (.tmp 0), none⟩,
  ⟨some 21, .convert 111 5 (.tmp 20), none⟩,
  ⟨some 22, .index 9 (.const (.string { data := #[0, 1, 2, 2, 3, 3, 3, 3, 4, 4, 4, 4, 4, 4, 4, 4, 5, 5, 5, 5, 5, 5, 5, 5, 5, 5, 5, 5, 5, 5, 5, 5, 6, 6, 6, 6, 6, 6, 6, 6, 6, 6, 6, 6, 6, 6, 6, 6, 6, 6, 6, 6, 6, 6, 6, 6, 6, 6, 6, 6, 6, 6, 6, 6, 7, 7, 7, 7, 7, 7, 7, 7, 7, 7, 7, 7, 7, 7, 7, 7, 7, 7, 7, 7, 7, 7, 7, 7, 7, 7, 7, 7, 7, 7, 7, 7, 7, 7, 7, 7, 7, 7, 7, 7, 7, 7, 7, 7, 7, 7, 7, 7, 7, 7, 7, 7, 7, 7, 7, 7, 7, 7, 7, 7, 7, 7, 7, 7, 8, 8, 8, 8, 8, 8, 8, 8, 8, 8, 8, 8, 8, 8, 8, 8, 8, 8, 8, 8, 8, 8, 8, 8, 8, 8, 8, 8, 8, 8, 8, 8, 8, 8, 8, 8, 8, 8, 8, 8, 8, 8, 8, 8, 8, 8, 8, 8, 8, 8, 8, 8, 8, 8, 8, 8, 8, 8, 8, 8, 8, 8, 8, 8, 8, 8, 8, 8, 8, 8, 8, 8, 8, 8, 8, 8, 8, 8, 8, 8, 8, 8, 8, 8, 8, 8, 8, 8, 8, 8, 8, 8, 8, 8, 8, 8, 8, 8, 8, 8, 8, 8, 8, 8, 8, 8, 8, 8, 8, 8, 8, 8, 8, 8, 8, 8, 8, 8, 8, 8, 8, 8, 8, 8, 8, 8, 8, 8] })) (.tmp 21), none⟩,
  ⟨some 23, .convert 5 3 (.tmp 22), none⟩,
  ⟨some 24, .binOp .add 3 (.tmp 19) (.tmp 23) 3, none⟩,
  ⟨some 2, .assign (.tmp 24), none⟩]) (.ret)))))
theorem ls81 : Tryd.f81.body.map (strip Tryd.prog impCodA) = some lc81 := by kernel_rfl
theorem lcall81 {args : List AV} (hargs : args.length ≤ 25) {H0 : AHeap} (lo : Nat) (hlo : H0.length ≤ lo) {r0 : AV} {H0' : AHeap}
    (h : lavc Tryd.prog glob lc81 (args ++ List.replicate (25 - args.length) (.v undef)) H0 fun e t H => (e = .normal ∨ e = .ret) ∧ aret Tryd.prog t H [Go.ResultVar.tmp 2] fun r => Fin lo H r r0 H0') :
    ACall Tryd.prog glob (H0.length == 0) 81 args H0 r0 H0' := LCall' ctx Tryd.func81 (by kernel_rfl) ls81 (by kernel_rfl) (by kernel_rfl) hargs lo hlo h
/-- internal/strconv.bool2[int] -/
def lc82 : LCode := .seq (.reg []
  [⟨some 2, .assign (.const (.int .i64 0)), none⟩]) (.seq (.seq (.reg []
  [⟨some 3, .move (.tmp 0), none⟩]) (.cond (.tmp 3) (.seq (.reg []
  [⟨some 2, .assign (.const (.int .i64 1)), none⟩]) (.ret)) (.skip))) (.seq (.reg []
  [⟨some 2, .assign (.const (.int .i64 0)), none⟩]) (.ret)))
theorem ls82 : Tryd.f82.body.map (strip Tryd.prog impCodA) = some lc82 := by kernel_rfl
theorem lcall82 {args : List AV} (hargs : args.length ≤ 4) {H0 : AHeap} (lo : Nat) (hlo : H0.length ≤ lo) {r0 : AV} {H0' : AHeap}
    (h : lavc Tryd.prog glob lc82 (args ++ List.replicate (4 - args.length) (.v undef)) H0 fun e t H => (e = .normal ∨ e = .ret) ∧ aret Tryd.prog t H [Go.ResultVar.tmp 2] fun r => Fin lo H r r0 H0') :
    ACall Tryd.prog glob (H0.length == 0) 82 args H0 r0 H0' := LCall' ctx Tryd.func82 (by kernel_rfl) ls82 (by kernel_rfl) (by kernel_rfl) hargs lo hlo h
/-- escutcheon/escutcheonref21.First -/
def lc13 : LCode := .seq (.reg []
  [⟨some 0, .assign (.const (.int .i64 0)), none⟩]) (.seq (.reg []
  [⟨some 1, .call { callee := .value (.func 26), args := #[.const (.int .i64 0), .const (.int .i64 1), .const (.int .i64 1), .const (.int .i64 0), .const (.int .i64 0), .const (.int .i64 0)], argTypes := #[3, 3, 3, 3, 3, 3] }, none⟩,
  ⟨some 0, .assign (.tmp 1), none⟩]) (.ret))
theorem ls13 : Tryd.f13.body.map (strip Tryd.prog impCodA) = some lc13 := by kernel_rfl
theorem lcall13 {args : List AV} (hargs : args.length ≤ 2) {H0 : AHeap} (lo : Nat) (hlo : H0.length ≤ lo) {r0 : AV} {H0' : AHeap}
    (h : lavc Tryd.prog glob lc13 (args ++ List.replicate (2 - args.length) (.v undef)) H0 fun e t H => (e = .normal ∨ e = .ret) ∧ aret Tryd.prog t H [Go.ResultVar.tmp 0] fun r => Fin lo H r r0 H0') :
    ACall Tryd.prog glob (H0.length == 0) 13 args H0 r0 H0' := LCall' ctx Tryd.func13 (by kernel_rfl) ls13 (by kernel_rfl) (by kernel_rfl) hargs lo hlo h
/-- escutcheon/escutcheonref21.Last -/
def lc14 : LCode := .seq (.reg []
  [⟨some 0, .assign (.const (.int .i64 0)), none⟩]) (.seq (.reg []
  [⟨some 1, .call { callee := .value (.func 26), args := #[.const (.int .i64 9999), .const (.int .i64 12), .const (.int .i64 31), .const (.int .i64 23), .const (.int .i64 59), .const (.int .i64 59)], argTypes := #[3, 3, 3, 3, 3, 3] }, none⟩,
  ⟨some 0, .assign (.tmp 1), none⟩]) (.ret))
theorem ls14 : Tryd.f14.body.map (strip Tryd.prog impCodA) = some lc14 := by kernel_rfl
theorem lcall14 {args : List AV} (hargs : args.length ≤ 2) {H0 : AHeap} (lo : Nat) (hlo : H0.length ≤ lo) {r0 : AV} {H0' : AHeap}
    (h : lavc Tryd.prog glob lc14 (args ++ List.replicate (2 - args.length) (.v undef)) H0 fun e t H => (e = .normal ∨ e = .ret) ∧ aret Tryd.prog t H [Go.ResultVar.tmp 0] fun r => Fin lo H r r0 H0') :
    ACall Tryd.prog glob (H0.length == 0) 14 args H0 r0 H0' := LCall' ctx Tryd.func14 (by kernel_rfl) ls14 (by kernel_rfl) (by kernel_rfl) hargs lo hlo h
end Go.Abs.S
