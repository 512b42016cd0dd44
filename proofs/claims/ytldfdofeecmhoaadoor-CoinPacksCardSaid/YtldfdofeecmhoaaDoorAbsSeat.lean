/- Closed facts on the types of this seat's program. -/
import Derived.Test.YtldfdofeecmhoaaDoorAbsKit
import Derived.Test.YtldfdofeecmhoaaDoorProg
import Derived.KernelRfl
namespace Go.Abs.S
open Go.Proofs
theorem mixed : Tryd.prog.follows .mixedOrders = true := by kernel_rfl
set_option maxRecDepth 100000
def cells_escutcheon_coin_base : List Value := [.string ⟨#[65, 66, 67, 68, 69, 70, 71, 72, 73, 74, 75, 76, 77, 78, 79, 80, 81, 82, 83, 84, 85, 86, 87, 88, 89, 90, 97, 98, 99, 100, 101, 102, 103, 104, 105, 106, 107, 108, 109, 110, 111, 112, 113, 114, 115, 116, 117, 118, 119, 120, 121, 122, 48, 49, 50, 51, 52, 53, 54, 55, 56, 57, 45, 95]⟩, .int .i64 6]
def av_escutcheon_coin_base : AV := .vptr [.v (.string ⟨#[65, 66, 67, 68, 69, 70, 71, 72, 73, 74, 75, 76, 77, 78, 79, 80, 81, 82, 83, 84, 85, 86, 87, 88, 89, 90, 97, 98, 99, 100, 101, 102, 103, 104, 105, 106, 107, 108, 109, 110, 111, 112, 113, 114, 115, 116, 117, 118, 119, 120, 121, 122, 48, 49, 50, 51, 52, 53, 54, 55, 56, 57, 45, 95]⟩), .v (.int .i64 6)] 0
/-- What is known of package-level variables. -/
def glob : Glob := fun g => if g = 0 then av_escutcheon_coin_base else .any
theorem glob_escutcheon_coin_base : (match av_escutcheon_coin_base with | .vptr xs _ => xs | _ => []) = cells_escutcheon_coin_base.map .v := by
  first | rfl | simp [av_escutcheon_coin_base, cells_escutcheon_coin_base, ints]
@[go_sem] theorem globat0 : glob 0 = .vptr [.v (.string ⟨#[65, 66, 67, 68, 69, 70, 71, 72, 73, 74, 75, 76, 77, 78, 79, 80, 81, 82, 83, 84, 85, 86, 87, 88, 89, 90, 97, 98, 99, 100, 101, 102, 103, 104, 105, 106, 107, 108, 109, 110, 111, 112, 113, 114, 115, 116, 117, 118, 119, 120, 121, 122, 48, 49, 50, 51, 52, 53, 54, 55, 56, 57, 45, 95]⟩), .v (.int .i64 6)] 0 := rfl
theorem nr_escutcheon_coin_base : NR av_escutcheon_coin_base := NR.vptr (by
  intro c hc
  have h : c ∈ cells_escutcheon_coin_base.map AV.v := by rw [← glob_escutcheon_coin_base]; exact hc
  obtain ⟨x, _, rfl⟩ := List.mem_map.1 h
  exact NR.v x)
theorem glob_nr : GN glob := by
  intro g
  unfold glob
  by_cases e0 : g = 0
  · rw [if_pos e0]
    exact nr_escutcheon_coin_base
  rw [if_neg e0]
  exact NR.any
theorem ctx : Ctx Tryd.prog glob := ⟨glob_nr, mixed⟩
@[go_sem] theorem tsz2 : tsz Tryd.prog 2 = some 1 := by kernel_rfl
@[go_sem] theorem tby2 : tby Tryd.prog 2 = some 8 := by kernel_rfl
@[go_sem] theorem tzero2 : tzero Tryd.prog 2 = some (.int .i64 0) := by kernel_rfl
@[go_sem] theorem tsz3 : tsz Tryd.prog 3 = some 1 := by kernel_rfl
@[go_sem] theorem tby3 : tby Tryd.prog 3 = some 8 := by kernel_rfl
@[go_sem] theorem tzero3 : tzero Tryd.prog 3 = some (.int .i64 0) := by kernel_rfl
@[go_sem] theorem tsz4 : tsz Tryd.prog 4 = some 1 := by kernel_rfl
@[go_sem] theorem tby4 : tby Tryd.prog 4 = some 1 := by kernel_rfl
@[go_sem] theorem tzero4 : tzero Tryd.prog 4 = some (.bool false) := by kernel_rfl
@[go_sem] theorem tsz5 : tsz Tryd.prog 5 = some 1 := by kernel_rfl
@[go_sem] theorem tby5 : tby Tryd.prog 5 = some 1 := by kernel_rfl
@[go_sem] theorem tzero5 : tzero Tryd.prog 5 = some (.int .u8 0) := by kernel_rfl
@[go_sem] theorem tsz6 : tsz Tryd.prog 6 = some 1 := by kernel_rfl
@[go_sem] theorem tby6 : tby Tryd.prog 6 = some 1 := by kernel_rfl
@[go_sem] theorem tzero6 : tzero Tryd.prog 6 = some (.int .u8 0) := by kernel_rfl
@[go_sem] theorem tsz7 : tsz Tryd.prog 7 = some 4 := by kernel_rfl
@[go_sem] theorem tby7 : tby Tryd.prog 7 = some 24 := by kernel_rfl
@[go_sem] theorem tzero7 : tzero Tryd.prog 7 = some (.agg #[(.int .i64 0), (.int .i64 0), (.bool false), (.int .u8 0)]) := by kernel_rfl
@[go_sem] theorem tsz8 : tsz Tryd.prog 8 = some 4 := by kernel_rfl
@[go_sem] theorem tby8 : tby Tryd.prog 8 = some 24 := by kernel_rfl
@[go_sem] theorem tzero8 : tzero Tryd.prog 8 = some (.agg #[(.int .i64 0), (.int .i64 0), (.bool false), (.int .u8 0)]) := by kernel_rfl
@[go_sem] theorem tsz9 : tsz Tryd.prog 9 = some 1 := by kernel_rfl
@[go_sem] theorem tby9 : tby Tryd.prog 9 = some 16 := by kernel_rfl
@[go_sem] theorem tzero9 : tzero Tryd.prog 9 = some (.string ⟨#[]⟩) := by kernel_rfl
@[go_sem] theorem row9 : Row Tryd.prog 9 := .inr (by kernel_rfl)
@[go_sem] theorem tsz10 : tsz Tryd.prog 10 = some 1 := by kernel_rfl
@[go_sem] theorem tby10 : tby Tryd.prog 10 = some 16 := by kernel_rfl
@[go_sem] theorem tzero10 : tzero Tryd.prog 10 = some (.string ⟨#[]⟩) := by kernel_rfl
@[go_sem] theorem row10 : Row Tryd.prog 10 := .inr (by kernel_rfl)
@[go_sem] theorem tsz11 : tsz Tryd.prog 11 = some 1 := by kernel_rfl
@[go_sem] theorem tby11 : tby Tryd.prog 11 = some 16 := by kernel_rfl
@[go_sem] theorem tzero11 : tzero Tryd.prog 11 = some (.string ⟨#[]⟩) := by kernel_rfl
@[go_sem] theorem row11 : Row Tryd.prog 11 := .inr (by kernel_rfl)
@[go_sem] theorem tsz12 : tsz Tryd.prog 12 = some 1 := by kernel_rfl
@[go_sem] theorem tby12 : tby Tryd.prog 12 = some 8 := by kernel_rfl
@[go_sem] theorem tzero12 : tzero Tryd.prog 12 = some (.int .u64 0) := by kernel_rfl
@[go_sem] theorem tsz13 : tsz Tryd.prog 13 = some 2 := by kernel_rfl
@[go_sem] theorem tby13 : tby Tryd.prog 13 = some 24 := by kernel_rfl
@[go_sem] theorem tzero13 : tzero Tryd.prog 13 = some (.agg #[(.string ⟨#[]⟩), (.int .u64 0)]) := by kernel_rfl
@[go_sem] theorem tsz14 : tsz Tryd.prog 14 = some 2 := by kernel_rfl
@[go_sem] theorem tby14 : tby Tryd.prog 14 = some 24 := by kernel_rfl
@[go_sem] theorem tzero14 : tzero Tryd.prog 14 = some (.agg #[(.string ⟨#[]⟩), (.int .u64 0)]) := by kernel_rfl
@[go_sem] theorem tsz15 : tsz Tryd.prog 15 = some 1 := by kernel_rfl
@[go_sem] theorem tby15 : tby Tryd.prog 15 = some 8 := by kernel_rfl
@[go_sem] theorem tzero15 : tzero Tryd.prog 15 = some (.pointer none) := by kernel_rfl
@[go_sem] theorem tsz16 : tsz Tryd.prog 16 = some 1 := by kernel_rfl
@[go_sem] theorem tby16 : tby Tryd.prog 16 = some 8 := by kernel_rfl
@[go_sem] theorem tzero16 : tzero Tryd.prog 16 = some (.pointer none) := by kernel_rfl
@[go_sem] theorem tsz17 : tsz Tryd.prog 17 = some 1 := by kernel_rfl
@[go_sem] theorem tby17 : tby Tryd.prog 17 = some 8 := by kernel_rfl
@[go_sem] theorem tzero17 : tzero Tryd.prog 17 = some (.pointer none) := by kernel_rfl
@[go_sem] theorem tsz18 : tsz Tryd.prog 18 = some 1 := by kernel_rfl
@[go_sem] theorem tby18 : tby Tryd.prog 18 = some 8 := by kernel_rfl
@[go_sem] theorem tzero18 : tzero Tryd.prog 18 = some (.agg #[(.pointer none)]) := by kernel_rfl
@[go_sem] theorem tsz19 : tsz Tryd.prog 19 = some 1 := by kernel_rfl
@[go_sem] theorem tby19 : tby Tryd.prog 19 = some 8 := by kernel_rfl
@[go_sem] theorem tzero19 : tzero Tryd.prog 19 = some (.agg #[(.pointer none)]) := by kernel_rfl
@[go_sem] theorem tsz21 : tsz Tryd.prog 21 = some 1 := by kernel_rfl
@[go_sem] theorem tby21 : tby Tryd.prog 21 = some 4 := by kernel_rfl
@[go_sem] theorem tzero21 : tzero Tryd.prog 21 = some (.int .i32 0) := by kernel_rfl
@[go_sem] theorem tsz22 : tsz Tryd.prog 22 = some 1 := by kernel_rfl
@[go_sem] theorem tby22 : tby Tryd.prog 22 = some 24 := by kernel_rfl
@[go_sem] theorem tzero22 : tzero Tryd.prog 22 = some (.slice none 0 0) := by kernel_rfl
@[go_sem] theorem row22 : Row Tryd.prog 22 := .inl ⟨5, by kernel_rfl⟩
@[go_sem] theorem tsz27 : tsz Tryd.prog 27 = some 1 := by kernel_rfl
@[go_sem] theorem tby27 : tby Tryd.prog 27 = some 24 := by kernel_rfl
@[go_sem] theorem tzero27 : tzero Tryd.prog 27 = some (.slice none 0 0) := by kernel_rfl
@[go_sem] theorem row27 : Row Tryd.prog 27 := .inl ⟨22, by kernel_rfl⟩
@[go_sem] theorem tsz30 : tsz Tryd.prog 30 = some 1 := by kernel_rfl
@[go_sem] theorem tby30 : tby Tryd.prog 30 = some 8 := by kernel_rfl
@[go_sem] theorem tzero30 : tzero Tryd.prog 30 = some (.int .i64 0) := by kernel_rfl
@[go_sem] theorem tsz38 : tsz Tryd.prog 38 = some 1 := by kernel_rfl
@[go_sem] theorem tby38 : tby Tryd.prog 38 = some 2 := by kernel_rfl
@[go_sem] theorem tzero38 : tzero Tryd.prog 38 = some (.int .u16 0) := by kernel_rfl
@[go_sem] theorem tsz40 : tsz Tryd.prog 40 = some 1 := by kernel_rfl
@[go_sem] theorem tby40 : tby Tryd.prog 40 = some 24 := by kernel_rfl
@[go_sem] theorem tzero40 : tzero Tryd.prog 40 = some (.slice none 0 0) := by kernel_rfl
@[go_sem] theorem row40 : Row Tryd.prog 40 := .inl ⟨9, by kernel_rfl⟩
@[go_sem] theorem tsz44 : tsz Tryd.prog 44 = some 2 := by kernel_rfl
@[go_sem] theorem tby44 : tby Tryd.prog 44 = some 24 := by kernel_rfl
@[go_sem] theorem tzero44 : tzero Tryd.prog 44 = some (.agg #[(.string ⟨#[]⟩), (.int .i64 0)]) := by kernel_rfl
@[go_sem] theorem tsz45 : tsz Tryd.prog 45 = some 2 := by kernel_rfl
@[go_sem] theorem tby45 : tby Tryd.prog 45 = some 24 := by kernel_rfl
@[go_sem] theorem tzero45 : tzero Tryd.prog 45 = some (.agg #[(.string ⟨#[]⟩), (.int .i64 0)]) := by kernel_rfl
@[go_sem] theorem tsz46 : tsz Tryd.prog 46 = some 1 := by kernel_rfl
@[go_sem] theorem tby46 : tby Tryd.prog 46 = some 8 := by kernel_rfl
@[go_sem] theorem tzero46 : tzero Tryd.prog 46 = some (.pointer none) := by kernel_rfl
@[go_sem] theorem tsz47 : tsz Tryd.prog 47 = some 2 := by kernel_rfl
@[go_sem] theorem tby47 : tby Tryd.prog 47 = some 32 := by kernel_rfl
@[go_sem] theorem tzero47 : tzero Tryd.prog 47 = some (.agg #[(.slice none 0 0), (.bool false)]) := by kernel_rfl
@[go_sem] theorem tsz48 : tsz Tryd.prog 48 = some 2 := by kernel_rfl
@[go_sem] theorem tby48 : tby Tryd.prog 48 = some 32 := by kernel_rfl
@[go_sem] theorem tzero48 : tzero Tryd.prog 48 = some (.agg #[(.slice none 0 0), (.bool false)]) := by kernel_rfl
@[go_sem] theorem tsz54 : tsz Tryd.prog 54 = some 1 := by kernel_rfl
@[go_sem] theorem tby54 : tby Tryd.prog 54 = some 8 := by kernel_rfl
@[go_sem] theorem tzero54 : tzero Tryd.prog 54 = some (.int .u64 0) := by kernel_rfl
@[go_sem] theorem tsz55 : tsz Tryd.prog 55 = some 1 := by kernel_rfl
@[go_sem] theorem tby55 : tby Tryd.prog 55 = some 8 := by kernel_rfl
@[go_sem] theorem tzero55 : tzero Tryd.prog 55 = some (.pointer none) := by kernel_rfl
@[go_sem] theorem tsz56 : tsz Tryd.prog 56 = some 2 := by kernel_rfl
@[go_sem] theorem tby56 : tby Tryd.prog 56 = some 32 := by kernel_rfl
@[go_sem] theorem tzero56 : tzero Tryd.prog 56 = some (.agg #[(.pointer none), (.slice none 0 0)]) := by kernel_rfl
@[go_sem] theorem tsz57 : tsz Tryd.prog 57 = some 2 := by kernel_rfl
@[go_sem] theorem tby57 : tby Tryd.prog 57 = some 32 := by kernel_rfl
@[go_sem] theorem tzero57 : tzero Tryd.prog 57 = some (.agg #[(.pointer none), (.slice none 0 0)]) := by kernel_rfl
@[go_sem] theorem tsz63 : tsz Tryd.prog 63 = some 1 := by kernel_rfl
@[go_sem] theorem tby63 : tby Tryd.prog 63 = some 8 := by kernel_rfl
@[go_sem] theorem tzero63 : tzero Tryd.prog 63 = some (.int .u64 0) := by kernel_rfl
@[go_sem] theorem tsz71 : tsz Tryd.prog 71 = some 1 := by kernel_rfl
@[go_sem] theorem tby71 : tby Tryd.prog 71 = some 8 := by kernel_rfl
@[go_sem] theorem tzero71 : tzero Tryd.prog 71 = some (.pointer none) := by kernel_rfl
@[go_sem] theorem tsz78 : tsz Tryd.prog 78 = some 1 := by kernel_rfl
@[go_sem] theorem tby78 : tby Tryd.prog 78 = some 4 := by kernel_rfl
@[go_sem] theorem tzero78 : tzero Tryd.prog 78 = some (.int .u32 0) := by kernel_rfl
@[go_sem] theorem tsz81 : tsz Tryd.prog 81 = some 256 := by kernel_rfl
@[go_sem] theorem tby81 : tby Tryd.prog 81 = some 256 := by kernel_rfl
@[go_sem] theorem tzero81 : tzero Tryd.prog 81 = some (zArr .u8 256) := by kernel_rfl
@[go_sem] theorem tsz82 : tsz Tryd.prog 82 = some 2 := by kernel_rfl
@[go_sem] theorem tby82 : tby Tryd.prog 82 = some 2 := by kernel_rfl
@[go_sem] theorem tzero82 : tzero Tryd.prog 82 = some (zArr .u8 2) := by kernel_rfl
@[go_sem] theorem tsz83 : tsz Tryd.prog 83 = some 2 := by kernel_rfl
@[go_sem] theorem tby83 : tby Tryd.prog 83 = some 2 := by kernel_rfl
@[go_sem] theorem tzero83 : tzero Tryd.prog 83 = some (zArr .u8 2) := by kernel_rfl
@[go_sem] theorem tsz84 : tsz Tryd.prog 84 = some 32 := by kernel_rfl
@[go_sem] theorem tby84 : tby Tryd.prog 84 = some 32 := by kernel_rfl
@[go_sem] theorem tzero84 : tzero Tryd.prog 84 = some (zArr .u8 32) := by kernel_rfl
@[go_sem] theorem tsz85 : tsz Tryd.prog 85 = some 4 := by kernel_rfl
@[go_sem] theorem tby85 : tby Tryd.prog 85 = some 40 := by kernel_rfl
@[go_sem] theorem tzero85 : tzero Tryd.prog 85 = some (.agg #[(.pointer none), (.pointer none), (.pointer none), (.string ⟨#[]⟩)]) := by kernel_rfl
@[go_sem] theorem tsz86 : tsz Tryd.prog 86 = some 4 := by kernel_rfl
@[go_sem] theorem tby86 : tby Tryd.prog 86 = some 40 := by kernel_rfl
@[go_sem] theorem tzero86 : tzero Tryd.prog 86 = some (.agg #[(.pointer none), (.pointer none), (.pointer none), (.string ⟨#[]⟩)]) := by kernel_rfl
@[go_sem] theorem tsz87 : tsz Tryd.prog 87 = some 0 := by kernel_rfl
@[go_sem] theorem tby87 : tby Tryd.prog 87 = some 0 := by kernel_rfl
@[go_sem] theorem tzero87 : tzero Tryd.prog 87 = some (.agg #[]) := by kernel_rfl
@[go_sem] theorem tsz88 : tsz Tryd.prog 88 = some 0 := by kernel_rfl
@[go_sem] theorem tby88 : tby Tryd.prog 88 = some 0 := by kernel_rfl
@[go_sem] theorem tzero88 : tzero Tryd.prog 88 = some (.agg #[]) := by kernel_rfl
@[go_sem] theorem tsz89 : tsz Tryd.prog 89 = some 0 := by kernel_rfl
@[go_sem] theorem tby89 : tby Tryd.prog 89 = some 0 := by kernel_rfl
@[go_sem] theorem tzero89 : tzero Tryd.prog 89 = some (.agg #[]) := by kernel_rfl
@[go_sem] theorem tsz90 : tsz Tryd.prog 90 = some 1 := by kernel_rfl
@[go_sem] theorem tby90 : tby Tryd.prog 90 = some 1 := by kernel_rfl
@[go_sem] theorem tzero90 : tzero Tryd.prog 90 = some (.int .u8 0) := by kernel_rfl
@[go_sem] theorem tsz91 : tsz Tryd.prog 91 = some 1 := by kernel_rfl
@[go_sem] theorem tby91 : tby Tryd.prog 91 = some 1 := by kernel_rfl
@[go_sem] theorem tzero91 : tzero Tryd.prog 91 = some (.int .u8 0) := by kernel_rfl
@[go_sem] theorem tsz93 : tsz Tryd.prog 93 = some 1 := by kernel_rfl
@[go_sem] theorem tby93 : tby Tryd.prog 93 = some 4 := by kernel_rfl
@[go_sem] theorem tzero93 : tzero Tryd.prog 93 = some (.int .i32 0) := by kernel_rfl
@[go_sem] theorem tsz94 : tsz Tryd.prog 94 = some 1 := by kernel_rfl
@[go_sem] theorem tby94 : tby Tryd.prog 94 = some 4 := by kernel_rfl
@[go_sem] theorem tzero94 : tzero Tryd.prog 94 = some (.int .i32 0) := by kernel_rfl
@[go_sem] theorem tsz95 : tsz Tryd.prog 95 = some 11 := by kernel_rfl
@[go_sem] theorem tby95 : tby Tryd.prog 95 = some 48 := by kernel_rfl
@[go_sem] theorem tzero95 : tzero Tryd.prog 95 = some (.agg #[(.int .u64 0), (.int .u64 0), (.int .u32 0), (.int .u8 0), (.int .u8 0), (.int .u8 0), (.int .u8 0), .nilFunc, (.pointer none), (.int .i32 0), (.int .i32 0)]) := by kernel_rfl
@[go_sem] theorem tsz96 : tsz Tryd.prog 96 = some 11 := by kernel_rfl
@[go_sem] theorem tby96 : tby Tryd.prog 96 = some 48 := by kernel_rfl
@[go_sem] theorem tzero96 : tzero Tryd.prog 96 = some (.agg #[(.int .u64 0), (.int .u64 0), (.int .u32 0), (.int .u8 0), (.int .u8 0), (.int .u8 0), (.int .u8 0), .nilFunc, (.pointer none), (.int .i32 0), (.int .i32 0)]) := by kernel_rfl
@[go_sem] theorem und0 : Tryd.prog.underlying 0 = some (Go.TypeDesc.tuple #[]) := Tryd.underlying0
@[go_sem] theorem und1 : Tryd.prog.underlying 1 = some (Go.TypeDesc.func #[] #[] false) := Tryd.underlying1
@[go_sem] theorem und2 : Tryd.prog.underlying 2 = some (Go.TypeDesc.int Go.IntKind.i64) := Tryd.underlying2
@[go_sem] theorem und3 : Tryd.prog.underlying 3 = some (Go.TypeDesc.int Go.IntKind.i64) := Tryd.underlying3
@[go_sem] theorem und4 : Tryd.prog.underlying 4 = some Go.TypeDesc.bool := Tryd.underlying4
@[go_sem] theorem und5 : Tryd.prog.underlying 5 = some (Go.TypeDesc.int Go.IntKind.u8) := Tryd.underlying5
@[go_sem] theorem und6 : Tryd.prog.underlying 6 = some (Go.TypeDesc.int Go.IntKind.u8) := Tryd.underlying6
@[go_sem] theorem und7 : Tryd.prog.underlying 7 = some (Go.TypeDesc.struct #[{ name := "x", type := 2, offset := 0, embedded := false, tag := "", pkgPath := "runtime", byteOffset := 0 }, { name := "y", type := 3, offset := 1, embedded := false, tag := "", pkgPath := "runtime", byteOffset := 8 }, { name := "signed", type := 4, offset := 2, embedded := false, tag := "", pkgPath := "runtime", byteOffset := 16 }, { name := "code", type := 6, offset := 3, embedded := false, tag := "", pkgPath := "runtime", byteOffset := 17 }]) := Tryd.underlying7
@[go_sem] theorem und8 : Tryd.prog.underlying 8 = some (Go.TypeDesc.struct #[{ name := "x", type := 2, offset := 0, embedded := false, tag := "", pkgPath := "runtime", byteOffset := 0 }, { name := "y", type := 3, offset := 1, embedded := false, tag := "", pkgPath := "runtime", byteOffset := 8 }, { name := "signed", type := 4, offset := 2, embedded := false, tag := "", pkgPath := "runtime", byteOffset := 16 }, { name := "code", type := 6, offset := 3, embedded := false, tag := "", pkgPath := "runtime", byteOffset := 17 }]) := Tryd.underlying8
@[go_sem] theorem und9 : Tryd.prog.underlying 9 = some Go.TypeDesc.string := Tryd.underlying9
@[go_sem] theorem und10 : Tryd.prog.underlying 10 = some Go.TypeDesc.string := Tryd.underlying10
@[go_sem] theorem und11 : Tryd.prog.underlying 11 = some Go.TypeDesc.string := Tryd.underlying11
@[go_sem] theorem und12 : Tryd.prog.underlying 12 = some (Go.TypeDesc.int Go.IntKind.u64) := Tryd.underlying12
@[go_sem] theorem und13 : Tryd.prog.underlying 13 = some (Go.TypeDesc.struct #[{ name := "msg", type := 9, offset := 0, embedded := false, tag := "", pkgPath := "runtime", byteOffset := 0 }, { name := "addr", type := 12, offset := 1, embedded := false, tag := "", pkgPath := "runtime", byteOffset := 16 }]) := Tryd.underlying13
@[go_sem] theorem und14 : Tryd.prog.underlying 14 = some (Go.TypeDesc.struct #[{ name := "msg", type := 9, offset := 0, embedded := false, tag := "", pkgPath := "runtime", byteOffset := 0 }, { name := "addr", type := 12, offset := 1, embedded := false, tag := "", pkgPath := "runtime", byteOffset := 16 }]) := Tryd.underlying14
@[go_sem] theorem und15 : Tryd.prog.underlying 15 = some (Go.TypeDesc.pointer 86) := Tryd.underlying15
@[go_sem] theorem und16 : Tryd.prog.underlying 16 = some (Go.TypeDesc.pointer 89) := Tryd.underlying16
@[go_sem] theorem und17 : Tryd.prog.underlying 17 = some (Go.TypeDesc.pointer 96) := Tryd.underlying17
@[go_sem] theorem und18 : Tryd.prog.underlying 18 = some (Go.TypeDesc.struct #[{ name := "typ", type := 17, offset := 0, embedded := false, tag := "", pkgPath := "internal/runtime/maps", byteOffset := 0 }]) := Tryd.underlying18
@[go_sem] theorem und19 : Tryd.prog.underlying 19 = some (Go.TypeDesc.struct #[{ name := "typ", type := 17, offset := 0, embedded := false, tag := "", pkgPath := "internal/runtime/maps", byteOffset := 0 }]) := Tryd.underlying19
@[go_sem] theorem und20 : Tryd.prog.underlying 20 = some (Go.TypeDesc.interface #[]) := Tryd.underlying20
@[go_sem] theorem und21 : Tryd.prog.underlying 21 = some (Go.TypeDesc.int Go.IntKind.i32) := Tryd.underlying21
@[go_sem] theorem und22 : Tryd.prog.underlying 22 = some (Go.TypeDesc.slice 5) := Tryd.underlying22
@[go_sem] theorem und23 : Tryd.prog.underlying 23 = some (Go.TypeDesc.func #[] #[4] false) := Tryd.underlying23
@[go_sem] theorem und24 : Tryd.prog.underlying 24 = some (Go.TypeDesc.func #[22] #[9] false) := Tryd.underlying24
@[go_sem] theorem und25 : Tryd.prog.underlying 25 = some (Go.TypeDesc.func #[22, 22] #[4] false) := Tryd.underlying25
@[go_sem] theorem und26 : Tryd.prog.underlying 26 = some (Go.TypeDesc.func #[22, 22, 5] #[4] false) := Tryd.underlying26
@[go_sem] theorem und27 : Tryd.prog.underlying 27 = some (Go.TypeDesc.slice 22) := Tryd.underlying27
@[go_sem] theorem und28 : Tryd.prog.underlying 28 = some (Go.TypeDesc.func #[27] #[22] true) := Tryd.underlying28
@[go_sem] theorem und29 : Tryd.prog.underlying 29 = some (Go.TypeDesc.func #[27, 27] #[4] false) := Tryd.underlying29
@[go_sem] theorem und30 : Tryd.prog.underlying 30 = some (Go.TypeDesc.int Go.IntKind.i64) := Tryd.underlying30
@[go_sem] theorem und31 : Tryd.prog.underlying 31 = some (Go.TypeDesc.tuple #[27, 30]) := Tryd.underlying31
@[go_sem] theorem und32 : Tryd.prog.underlying 32 = some (Go.TypeDesc.func #[22] #[27, 30] false) := Tryd.underlying32
@[go_sem] theorem und33 : Tryd.prog.underlying 33 = some (Go.TypeDesc.func #[27] #[22] false) := Tryd.underlying33
@[go_sem] theorem und34 : Tryd.prog.underlying 34 = some (Go.TypeDesc.func #[27] #[4] false) := Tryd.underlying34
@[go_sem] theorem und35 : Tryd.prog.underlying 35 = some (Go.TypeDesc.tuple #[27, 3]) := Tryd.underlying35
@[go_sem] theorem und36 : Tryd.prog.underlying 36 = some (Go.TypeDesc.func #[22] #[27, 3] false) := Tryd.underlying36
@[go_sem] theorem und37 : Tryd.prog.underlying 37 = some (Go.TypeDesc.func #[22] #[4] false) := Tryd.underlying37
@[go_sem] theorem und38 : Tryd.prog.underlying 38 = some (Go.TypeDesc.int Go.IntKind.u16) := Tryd.underlying38
@[go_sem] theorem und39 : Tryd.prog.underlying 39 = some (Go.TypeDesc.func #[27, 38, 5] #[4] false) := Tryd.underlying39
@[go_sem] theorem und40 : Tryd.prog.underlying 40 = some (Go.TypeDesc.slice 9) := Tryd.underlying40
@[go_sem] theorem und41 : Tryd.prog.underlying 41 = some (Go.TypeDesc.func #[9, 3] #[40] false) := Tryd.underlying41
@[go_sem] theorem und42 : Tryd.prog.underlying 42 = some (Go.TypeDesc.func #[3] #[22] false) := Tryd.underlying42
@[go_sem] theorem und43 : Tryd.prog.underlying 43 = some (Go.TypeDesc.func #[9, 5, 3] #[4] false) := Tryd.underlying43
@[go_sem] theorem und44 : Tryd.prog.underlying 44 = some (Go.TypeDesc.struct #[{ name := "signs", type := 9, offset := 0, embedded := false, tag := "", pkgPath := "escutcheon/coin", byteOffset := 0 }, { name := "bits", type := 3, offset := 1, embedded := false, tag := "", pkgPath := "escutcheon/coin", byteOffset := 16 }]) := Tryd.underlying44
@[go_sem] theorem und45 : Tryd.prog.underlying 45 = some (Go.TypeDesc.struct #[{ name := "signs", type := 9, offset := 0, embedded := false, tag := "", pkgPath := "escutcheon/coin", byteOffset := 0 }, { name := "bits", type := 3, offset := 1, embedded := false, tag := "", pkgPath := "escutcheon/coin", byteOffset := 16 }]) := Tryd.underlying45
@[go_sem] theorem und46 : Tryd.prog.underlying 46 = some (Go.TypeDesc.pointer 48) := Tryd.underlying46
@[go_sem] theorem und47 : Tryd.prog.underlying 47 = some (Go.TypeDesc.struct #[{ name := "b", type := 22, offset := 0, embedded := false, tag := "", pkgPath := "escutcheon/coin", byteOffset := 0 }, { name := "short", type := 4, offset := 1, embedded := false, tag := "", pkgPath := "escutcheon/coin", byteOffset := 24 }]) := Tryd.underlying47
@[go_sem] theorem und48 : Tryd.prog.underlying 48 = some (Go.TypeDesc.struct #[{ name := "b", type := 22, offset := 0, embedded := false, tag := "", pkgPath := "escutcheon/coin", byteOffset := 0 }, { name := "short", type := 4, offset := 1, embedded := false, tag := "", pkgPath := "escutcheon/coin", byteOffset := 24 }]) := Tryd.underlying48
@[go_sem] theorem und49 : Tryd.prog.underlying 49 = some (Go.TypeDesc.func #[] #[3] false) := Tryd.underlying49
@[go_sem] theorem und50 : Tryd.prog.underlying 50 = some (Go.TypeDesc.tuple #[3, 4]) := Tryd.underlying50
@[go_sem] theorem und51 : Tryd.prog.underlying 51 = some (Go.TypeDesc.func #[22] #[3, 4] false) := Tryd.underlying51
@[go_sem] theorem und52 : Tryd.prog.underlying 52 = some (Go.TypeDesc.func #[9, 9] #[3] false) := Tryd.underlying52
@[go_sem] theorem und53 : Tryd.prog.underlying 53 = some (Go.TypeDesc.func #[9, 9] #[40] false) := Tryd.underlying53
@[go_sem] theorem und54 : Tryd.prog.underlying 54 = some (Go.TypeDesc.int Go.IntKind.u64) := Tryd.underlying54
@[go_sem] theorem und55 : Tryd.prog.underlying 55 = some (Go.TypeDesc.pointer 57) := Tryd.underlying55
@[go_sem] theorem und56 : Tryd.prog.underlying 56 = some (Go.TypeDesc.struct #[{ name := "addr", type := 55, offset := 0, embedded := false, tag := "", pkgPath := "strings", byteOffset := 0 }, { name := "buf", type := 22, offset := 1, embedded := false, tag := "", pkgPath := "strings", byteOffset := 8 }]) := Tryd.underlying56
@[go_sem] theorem und57 : Tryd.prog.underlying 57 = some (Go.TypeDesc.struct #[{ name := "addr", type := 55, offset := 0, embedded := false, tag := "", pkgPath := "strings", byteOffset := 0 }, { name := "buf", type := 22, offset := 1, embedded := false, tag := "", pkgPath := "strings", byteOffset := 8 }]) := Tryd.underlying57
@[go_sem] theorem und58 : Tryd.prog.underlying 58 = some (Go.TypeDesc.interface #[("Error", 61)]) := Tryd.underlying58
@[go_sem] theorem und59 : Tryd.prog.underlying 59 = some (Go.TypeDesc.interface #[("Error", 61)]) := Tryd.underlying59
@[go_sem] theorem und60 : Tryd.prog.underlying 60 = some (Go.TypeDesc.func #[5] #[59] false) := Tryd.underlying60
@[go_sem] theorem und61 : Tryd.prog.underlying 61 = some (Go.TypeDesc.func #[] #[9] false) := Tryd.underlying61
@[go_sem] theorem und62 : Tryd.prog.underlying 62 = some (Go.TypeDesc.func #[22, 3] #[22] false) := Tryd.underlying62
@[go_sem] theorem und63 : Tryd.prog.underlying 63 = some (Go.TypeDesc.int Go.IntKind.u64) := Tryd.underlying63
@[go_sem] theorem und64 : Tryd.prog.underlying 64 = some (Go.TypeDesc.func #[72] #[] false) := Tryd.underlying64
@[go_sem] theorem und65 : Tryd.prog.underlying 65 = some (Go.TypeDesc.func #[72] #[] false) := Tryd.underlying65
@[go_sem] theorem und66 : Tryd.prog.underlying 66 = some (Go.TypeDesc.func #[22] #[65] false) := Tryd.underlying66
@[go_sem] theorem und67 : Tryd.prog.underlying 67 = some (Go.TypeDesc.func #[22] #[22] false) := Tryd.underlying67
@[go_sem] theorem und68 : Tryd.prog.underlying 68 = some (Go.TypeDesc.func #[9] #[3] false) := Tryd.underlying68
@[go_sem] theorem und69 : Tryd.prog.underlying 69 = some (Go.TypeDesc.func #[9, 5] #[3] false) := Tryd.underlying69
@[go_sem] theorem und70 : Tryd.prog.underlying 70 = some (Go.TypeDesc.func #[9, 9, 3, 3] #[40] false) := Tryd.underlying70
@[go_sem] theorem und71 : Tryd.prog.underlying 71 = some (Go.TypeDesc.pointer 5) := Tryd.underlying71
@[go_sem] theorem und72 : Tryd.prog.underlying 72 = some (Go.TypeDesc.func #[3, 5] #[4] false) := Tryd.underlying72
@[go_sem] theorem und73 : Tryd.prog.underlying 73 = some Go.TypeDesc.unsafePointer := Tryd.underlying73
@[go_sem] theorem und74 : Tryd.prog.underlying 74 = some (Go.TypeDesc.func #[73] #[73] false) := Tryd.underlying74
@[go_sem] theorem und75 : Tryd.prog.underlying 75 = some (Go.TypeDesc.func #[3] #[3] false) := Tryd.underlying75
@[go_sem] theorem und76 : Tryd.prog.underlying 76 = some (Go.TypeDesc.tuple #[21, 3]) := Tryd.underlying76
@[go_sem] theorem und77 : Tryd.prog.underlying 77 = some (Go.TypeDesc.func #[9] #[21, 3] false) := Tryd.underlying77
@[go_sem] theorem und78 : Tryd.prog.underlying 78 = some (Go.TypeDesc.int Go.IntKind.u32) := Tryd.underlying78
@[go_sem] theorem und79 : Tryd.prog.underlying 79 = some (Go.TypeDesc.tuple #[78, 78]) := Tryd.underlying79
@[go_sem] theorem und80 : Tryd.prog.underlying 80 = some (Go.TypeDesc.func #[9] #[78, 78] false) := Tryd.underlying80
@[go_sem] theorem und81 : Tryd.prog.underlying 81 = some (Go.TypeDesc.array 256 5) := Tryd.underlying81
@[go_sem] theorem und82 : Tryd.prog.underlying 82 = some (Go.TypeDesc.struct #[{ name := "lo", type := 5, offset := 0, embedded := false, tag := "", pkgPath := "unicode/utf8", byteOffset := 0 }, { name := "hi", type := 5, offset := 1, embedded := false, tag := "", pkgPath := "unicode/utf8", byteOffset := 1 }]) := Tryd.underlying82
@[go_sem] theorem und83 : Tryd.prog.underlying 83 = some (Go.TypeDesc.struct #[{ name := "lo", type := 5, offset := 0, embedded := false, tag := "", pkgPath := "unicode/utf8", byteOffset := 0 }, { name := "hi", type := 5, offset := 1, embedded := false, tag := "", pkgPath := "unicode/utf8", byteOffset := 1 }]) := Tryd.underlying83
@[go_sem] theorem und84 : Tryd.prog.underlying 84 = some (Go.TypeDesc.array 16 83) := Tryd.underlying84
@[go_sem] theorem und85 : Tryd.prog.underlying 85 = some (Go.TypeDesc.struct #[{ name := "_interface", type := 17, offset := 0, embedded := false, tag := "", pkgPath := "runtime", byteOffset := 0 }, { name := "concrete", type := 17, offset := 1, embedded := false, tag := "", pkgPath := "runtime", byteOffset := 8 }, { name := "asserted", type := 17, offset := 2, embedded := false, tag := "", pkgPath := "runtime", byteOffset := 16 }, { name := "missingMethod", type := 9, offset := 3, embedded := false, tag := "", pkgPath := "runtime", byteOffset := 24 }]) := Tryd.underlying85
@[go_sem] theorem und86 : Tryd.prog.underlying 86 = some (Go.TypeDesc.struct #[{ name := "_interface", type := 17, offset := 0, embedded := false, tag := "", pkgPath := "runtime", byteOffset := 0 }, { name := "concrete", type := 17, offset := 1, embedded := false, tag := "", pkgPath := "runtime", byteOffset := 8 }, { name := "asserted", type := 17, offset := 2, embedded := false, tag := "", pkgPath := "runtime", byteOffset := 16 }, { name := "missingMethod", type := 9, offset := 3, embedded := false, tag := "", pkgPath := "runtime", byteOffset := 24 }]) := Tryd.underlying86
@[go_sem] theorem und87 : Tryd.prog.underlying 87 = some (Go.TypeDesc.array 0 16) := Tryd.underlying87
@[go_sem] theorem und88 : Tryd.prog.underlying 88 = some (Go.TypeDesc.struct #[{ name := "_", type := 87, offset := 0, embedded := false, tag := "", pkgPath := "runtime", byteOffset := 0 }]) := Tryd.underlying88
@[go_sem] theorem und89 : Tryd.prog.underlying 89 = some (Go.TypeDesc.struct #[{ name := "_", type := 87, offset := 0, embedded := false, tag := "", pkgPath := "runtime", byteOffset := 0 }]) := Tryd.underlying89
@[go_sem] theorem und90 : Tryd.prog.underlying 90 = some (Go.TypeDesc.int Go.IntKind.u8) := Tryd.underlying90
@[go_sem] theorem und91 : Tryd.prog.underlying 91 = some (Go.TypeDesc.int Go.IntKind.u8) := Tryd.underlying91
@[go_sem] theorem und92 : Tryd.prog.underlying 92 = some (Go.TypeDesc.func #[73, 73] #[4] false) := Tryd.underlying92
@[go_sem] theorem und93 : Tryd.prog.underlying 93 = some (Go.TypeDesc.int Go.IntKind.i32) := Tryd.underlying93
@[go_sem] theorem und94 : Tryd.prog.underlying 94 = some (Go.TypeDesc.int Go.IntKind.i32) := Tryd.underlying94
@[go_sem] theorem und95 : Tryd.prog.underlying 95 = some (Go.TypeDesc.struct #[{ name := "Size_", type := 12, offset := 0, embedded := false, tag := "", pkgPath := "", byteOffset := 0 }, { name := "PtrBytes", type := 12, offset := 1, embedded := false, tag := "", pkgPath := "", byteOffset := 8 }, { name := "Hash", type := 78, offset := 2, embedded := false, tag := "", pkgPath := "", byteOffset := 16 }, { name := "TFlag", type := 90, offset := 3, embedded := false, tag := "", pkgPath := "", byteOffset := 20 }, { name := "Align_", type := 5, offset := 4, embedded := false, tag := "", pkgPath := "", byteOffset := 21 }, { name := "FieldAlign_", type := 5, offset := 5, embedded := false, tag := "", pkgPath := "", byteOffset := 22 }, { name := "Kind_", type := 91, offset := 6, embedded := false, tag := "", pkgPath := "", byteOffset := 23 }, { name := "Equal", type := 92, offset := 7, embedded := false, tag := "", pkgPath := "", byteOffset := 24 }, { name := "GCData", type := 71, offset := 8, embedded := false, tag := "", pkgPath := "", byteOffset := 32 }, { name := "Str", type := 93, offset := 9, embedded := false, tag := "", pkgPath := "", byteOffset := 40 }, { name := "PtrToThis", type := 94, offset := 10, embedded := false, tag := "", pkgPath := "", byteOffset := 44 }]) := Tryd.underlying95
@[go_sem] theorem und96 : Tryd.prog.underlying 96 = some (Go.TypeDesc.struct #[{ name := "Size_", type := 12, offset := 0, embedded := false, tag := "", pkgPath := "", byteOffset := 0 }, { name := "PtrBytes", type := 12, offset := 1, embedded := false, tag := "", pkgPath := "", byteOffset := 8 }, { name := "Hash", type := 78, offset := 2, embedded := false, tag := "", pkgPath := "", byteOffset := 16 }, { name := "TFlag", type := 90, offset := 3, embedded := false, tag := "", pkgPath := "", byteOffset := 20 }, { name := "Align_", type := 5, offset := 4, embedded := false, tag := "", pkgPath := "", byteOffset := 21 }, { name := "FieldAlign_", type := 5, offset := 5, embedded := false, tag := "", pkgPath := "", byteOffset := 22 }, { name := "Kind_", type := 91, offset := 6, embedded := false, tag := "", pkgPath := "", byteOffset := 23 }, { name := "Equal", type := 92, offset := 7, embedded := false, tag := "", pkgPath := "", byteOffset := 24 }, { name := "GCData", type := 71, offset := 8, embedded := false, tag := "", pkgPath := "", byteOffset := 32 }, { name := "Str", type := 93, offset := 9, embedded := false, tag := "", pkgPath := "", byteOffset := 40 }, { name := "PtrToThis", type := 94, offset := 10, embedded := false, tag := "", pkgPath := "", byteOffset := 44 }]) := Tryd.underlying96
end Go.Abs.S
