/- Closed facts on the types of this seat's program. -/
import Derived.Test.YtjmalnoehmgenaaDoorAbsKit
import Derived.Test.YtjmalnoehmgenaaDoorProg
import Derived.KernelRfl
namespace Go.Abs.S
open Go.Proofs
theorem mixed : Tryd.prog.follows .mixedOrders = true := by kernel_rfl
set_option maxRecDepth 100000
def lay_escutcheon_hour_months : List Int := [31, 28, 31, 30, 31, 30, 31, 31, 30, 31, 30, 31]
def cells_escutcheon_hour_months : List Value := lay_escutcheon_hour_months.map (Value.int .i64)
def av_escutcheon_hour_months : AV := .vptr (ints .i64 lay_escutcheon_hour_months) 0
def lay_internal_strconv_uint64pow10 : List Int := [1, 10, 100, 1000, 10000, 100000, 1000000, 10000000, 100000000, 1000000000, 10000000000, 100000000000, 1000000000000, 10000000000000, 100000000000000, 1000000000000000, 10000000000000000, 100000000000000000, 1000000000000000000, 10000000000000000000]
def cells_internal_strconv_uint64pow10 : List Value := lay_internal_strconv_uint64pow10.map (Value.int .u64)
def av_internal_strconv_uint64pow10 : AV := .vptr (ints .u64 lay_internal_strconv_uint64pow10) 0
def lay_math_bits_deBruijn32tab : List Int := [0, 1, 28, 2, 29, 14, 24, 3, 30, 22, 20, 15, 25, 17, 4, 8, 31, 27, 13, 23, 21, 19, 16, 7, 26, 12, 18, 6, 11, 5, 10, 9]
def cells_math_bits_deBruijn32tab : List Value := lay_math_bits_deBruijn32tab.map (Value.int .u8)
def av_math_bits_deBruijn32tab : AV := .vptr (ints .u8 lay_math_bits_deBruijn32tab) 0
def lay_math_bits_deBruijn64tab : List Int := [0, 1, 56, 2, 57, 49, 28, 3, 61, 58, 42, 50, 38, 29, 17, 4, 62, 47, 59, 36, 45, 43, 51, 22, 53, 39, 33, 30, 24, 18, 12, 5, 63, 55, 48, 27, 60, 41, 37, 16, 46, 35, 44, 21, 52, 32, 23, 11, 54, 26, 40, 15, 34, 20, 31, 10, 25, 14, 19, 9, 13, 8, 7, 6]
def cells_math_bits_deBruijn64tab : List Value := lay_math_bits_deBruijn64tab.map (Value.int .u8)
def av_math_bits_deBruijn64tab : AV := .vptr (ints .u8 lay_math_bits_deBruijn64tab) 0
/-- What is known of package-level variables. -/
def glob : Glob := fun g => if g = 0 then av_escutcheon_hour_months else if g = 3 then av_internal_strconv_uint64pow10 else if g = 5 then av_math_bits_deBruijn32tab else if g = 6 then av_math_bits_deBruijn64tab else .any
theorem glob_escutcheon_hour_months : (match av_escutcheon_hour_months with | .vptr xs _ => xs | _ => []) = cells_escutcheon_hour_months.map .v := by
  first | rfl | simp [av_escutcheon_hour_months, cells_escutcheon_hour_months, ints]
@[go_sem] theorem globat0 : glob 0 = .vptr (ints .i64 lay_escutcheon_hour_months) 0 := rfl
theorem nr_escutcheon_hour_months : NR av_escutcheon_hour_months := NR.vptr (by
  intro c hc
  have h : c ∈ cells_escutcheon_hour_months.map AV.v := by rw [← glob_escutcheon_hour_months]; exact hc
  obtain ⟨x, _, rfl⟩ := List.mem_map.1 h
  exact NR.v x)
theorem glob_internal_strconv_uint64pow10 : (match av_internal_strconv_uint64pow10 with | .vptr xs _ => xs | _ => []) = cells_internal_strconv_uint64pow10.map .v := by
  first | rfl | simp [av_internal_strconv_uint64pow10, cells_internal_strconv_uint64pow10, ints]
@[go_sem] theorem globat3 : glob 3 = .vptr (ints .u64 lay_internal_strconv_uint64pow10) 0 := rfl
theorem nr_internal_strconv_uint64pow10 : NR av_internal_strconv_uint64pow10 := NR.vptr (by
  intro c hc
  have h : c ∈ cells_internal_strconv_uint64pow10.map AV.v := by rw [← glob_internal_strconv_uint64pow10]; exact hc
  obtain ⟨x, _, rfl⟩ := List.mem_map.1 h
  exact NR.v x)
theorem glob_math_bits_deBruijn32tab : (match av_math_bits_deBruijn32tab with | .vptr xs _ => xs | _ => []) = cells_math_bits_deBruijn32tab.map .v := by
  first | rfl | simp [av_math_bits_deBruijn32tab, cells_math_bits_deBruijn32tab, ints]
@[go_sem] theorem globat5 : glob 5 = .vptr (ints .u8 lay_math_bits_deBruijn32tab) 0 := rfl
theorem nr_math_bits_deBruijn32tab : NR av_math_bits_deBruijn32tab := NR.vptr (by
  intro c hc
  have h : c ∈ cells_math_bits_deBruijn32tab.map AV.v := by rw [← glob_math_bits_deBruijn32tab]; exact hc
  obtain ⟨x, _, rfl⟩ := List.mem_map.1 h
  exact NR.v x)
theorem glob_math_bits_deBruijn64tab : (match av_math_bits_deBruijn64tab with | .vptr xs _ => xs | _ => []) = cells_math_bits_deBruijn64tab.map .v := by
  first | rfl | simp [av_math_bits_deBruijn64tab, cells_math_bits_deBruijn64tab, ints]
@[go_sem] theorem globat6 : glob 6 = .vptr (ints .u8 lay_math_bits_deBruijn64tab) 0 := rfl
theorem nr_math_bits_deBruijn64tab : NR av_math_bits_deBruijn64tab := NR.vptr (by
  intro c hc
  have h : c ∈ cells_math_bits_deBruijn64tab.map AV.v := by rw [← glob_math_bits_deBruijn64tab]; exact hc
  obtain ⟨x, _, rfl⟩ := List.mem_map.1 h
  exact NR.v x)
theorem glob_nr : GN glob := by
  intro g
  unfold glob
  by_cases e0 : g = 0
  · rw [if_pos e0]
    exact nr_escutcheon_hour_months
  rw [if_neg e0]
  by_cases e3 : g = 3
  · rw [if_pos e3]
    exact nr_internal_strconv_uint64pow10
  rw [if_neg e3]
  by_cases e5 : g = 5
  · rw [if_pos e5]
    exact nr_math_bits_deBruijn32tab
  rw [if_neg e5]
  by_cases e6 : g = 6
  · rw [if_pos e6]
    exact nr_math_bits_deBruijn64tab
  rw [if_neg e6]
  exact NR.any
theorem ctx : Ctx Tryd.prog glob := ⟨glob_nr, mixed⟩
@[go_sem] theorem tsz2 : tsz Tryd.prog 2 = some 1 := by kernel_rfl
@[go_sem] theorem tby2 : tby Tryd.prog 2 = some 8 := by kernel_rfl
@[go_sem] theorem tzero2 : tzero Tryd.prog 2 = some (.int .i64 0) := by kernel_rfl
@[go_sem] theorem tsz3 : tsz Tryd.prog 3 = some 1 := by kernel_rfl
@[go_sem] theorem tby3 : tby Tryd.prog 3 = some 8 := by kernel_rfl
@[go_sem] theorem tzero3 : tzero Tryd.prog 3 = some (.int .i64 0) := by kernel_rfl
@[go_sem] theorem tsz4 : tsz Tryd.prog 4 = some 1 := by kernel_rfl
@[go_sem] theorem tby4 : tby Tryd.prog 4 = some 1 := by kernel_rfl
@[go_sem] theorem tzero4 : tzero Tryd.prog 4 = some (.bool false) := by kernel_rfl
@[go_sem] theorem tsz5 : tsz Tryd.prog 5 = some 1 := by kernel_rfl
@[go_sem] theorem tby5 : tby Tryd.prog 5 = some 1 := by kernel_rfl
@[go_sem] theorem tzero5 : tzero Tryd.prog 5 = some (.int .u8 0) := by kernel_rfl
@[go_sem] theorem tsz6 : tsz Tryd.prog 6 = some 1 := by kernel_rfl
@[go_sem] theorem tby6 : tby Tryd.prog 6 = some 1 := by kernel_rfl
@[go_sem] theorem tzero6 : tzero Tryd.prog 6 = some (.int .u8 0) := by kernel_rfl
@[go_sem] theorem tsz7 : tsz Tryd.prog 7 = some 4 := by kernel_rfl
@[go_sem] theorem tby7 : tby Tryd.prog 7 = some 24 := by kernel_rfl
@[go_sem] theorem tzero7 : tzero Tryd.prog 7 = some (.agg #[(.int .i64 0), (.int .i64 0), (.bool false), (.int .u8 0)]) := by kernel_rfl
@[go_sem] theorem tsz8 : tsz Tryd.prog 8 = some 4 := by kernel_rfl
@[go_sem] theorem tby8 : tby Tryd.prog 8 = some 24 := by kernel_rfl
@[go_sem] theorem tzero8 : tzero Tryd.prog 8 = some (.agg #[(.int .i64 0), (.int .i64 0), (.bool false), (.int .u8 0)]) := by kernel_rfl
@[go_sem] theorem tsz9 : tsz Tryd.prog 9 = some 1 := by kernel_rfl
@[go_sem] theorem tby9 : tby Tryd.prog 9 = some 16 := by kernel_rfl
@[go_sem] theorem tzero9 : tzero Tryd.prog 9 = some (.string ⟨#[]⟩) := by kernel_rfl
@[go_sem] theorem row9 : Row Tryd.prog 9 := .inr (by kernel_rfl)
@[go_sem] theorem tsz10 : tsz Tryd.prog 10 = some 1 := by kernel_rfl
@[go_sem] theorem tby10 : tby Tryd.prog 10 = some 16 := by kernel_rfl
@[go_sem] theorem tzero10 : tzero Tryd.prog 10 = some (.string ⟨#[]⟩) := by kernel_rfl
@[go_sem] theorem row10 : Row Tryd.prog 10 := .inr (by kernel_rfl)
@[go_sem] theorem tsz11 : tsz Tryd.prog 11 = some 1 := by kernel_rfl
@[go_sem] theorem tby11 : tby Tryd.prog 11 = some 16 := by kernel_rfl
@[go_sem] theorem tzero11 : tzero Tryd.prog 11 = some (.string ⟨#[]⟩) := by kernel_rfl
@[go_sem] theorem row11 : Row Tryd.prog 11 := .inr (by kernel_rfl)
@[go_sem] theorem tsz12 : tsz Tryd.prog 12 = some 1 := by kernel_rfl
@[go_sem] theorem tby12 : tby Tryd.prog 12 = some 8 := by kernel_rfl
@[go_sem] theorem tzero12 : tzero Tryd.prog 12 = some (.int .u64 0) := by kernel_rfl
@[go_sem] theorem tsz13 : tsz Tryd.prog 13 = some 2 := by kernel_rfl
@[go_sem] theorem tby13 : tby Tryd.prog 13 = some 24 := by kernel_rfl
@[go_sem] theorem tzero13 : tzero Tryd.prog 13 = some (.agg #[(.string ⟨#[]⟩), (.int .u64 0)]) := by kernel_rfl
@[go_sem] theorem tsz14 : tsz Tryd.prog 14 = some 2 := by kernel_rfl
@[go_sem] theorem tby14 : tby Tryd.prog 14 = some 24 := by kernel_rfl
@[go_sem] theorem tzero14 : tzero Tryd.prog 14 = some (.agg #[(.string ⟨#[]⟩), (.int .u64 0)]) := by kernel_rfl
@[go_sem] theorem tsz15 : tsz Tryd.prog 15 = some 1 := by kernel_rfl
@[go_sem] theorem tby15 : tby Tryd.prog 15 = some 8 := by kernel_rfl
@[go_sem] theorem tzero15 : tzero Tryd.prog 15 = some (.pointer none) := by kernel_rfl
@[go_sem] theorem tsz16 : tsz Tryd.prog 16 = some 1 := by kernel_rfl
@[go_sem] theorem tby16 : tby Tryd.prog 16 = some 8 := by kernel_rfl
@[go_sem] theorem tzero16 : tzero Tryd.prog 16 = some (.pointer none) := by kernel_rfl
@[go_sem] theorem tsz17 : tsz Tryd.prog 17 = some 1 := by kernel_rfl
@[go_sem] theorem tby17 : tby Tryd.prog 17 = some 8 := by kernel_rfl
@[go_sem] theorem tzero17 : tzero Tryd.prog 17 = some (.pointer none) := by kernel_rfl
@[go_sem] theorem tsz18 : tsz Tryd.prog 18 = some 1 := by kernel_rfl
@[go_sem] theorem tby18 : tby Tryd.prog 18 = some 8 := by kernel_rfl
@[go_sem] theorem tzero18 : tzero Tryd.prog 18 = some (.agg #[(.pointer none)]) := by kernel_rfl
@[go_sem] theorem tsz19 : tsz Tryd.prog 19 = some 1 := by kernel_rfl
@[go_sem] theorem tby19 : tby Tryd.prog 19 = some 8 := by kernel_rfl
@[go_sem] theorem tzero19 : tzero Tryd.prog 19 = some (.agg #[(.pointer none)]) := by kernel_rfl
@[go_sem] theorem tsz21 : tsz Tryd.prog 21 = some 1 := by kernel_rfl
@[go_sem] theorem tby21 : tby Tryd.prog 21 = some 4 := by kernel_rfl
@[go_sem] theorem tzero21 : tzero Tryd.prog 21 = some (.int .i32 0) := by kernel_rfl
@[go_sem] theorem tsz23 : tsz Tryd.prog 23 = some 1 := by kernel_rfl
@[go_sem] theorem tby23 : tby Tryd.prog 23 = some 8 := by kernel_rfl
@[go_sem] theorem tzero23 : tzero Tryd.prog 23 = some (.int .i64 0) := by kernel_rfl
@[go_sem] theorem tsz36 : tsz Tryd.prog 36 = some 1 := by kernel_rfl
@[go_sem] theorem tby36 : tby Tryd.prog 36 = some 24 := by kernel_rfl
@[go_sem] theorem tzero36 : tzero Tryd.prog 36 = some (.slice none 0 0) := by kernel_rfl
@[go_sem] theorem row36 : Row Tryd.prog 36 := .inl ⟨5, by kernel_rfl⟩
@[go_sem] theorem tsz41 : tsz Tryd.prog 41 = some 3 := by kernel_rfl
@[go_sem] theorem tby41 : tby Tryd.prog 41 = some 24 := by kernel_rfl
@[go_sem] theorem tzero41 : tzero Tryd.prog 41 = some (zArr .i64 3) := by kernel_rfl
@[go_sem] theorem tsz42 : tsz Tryd.prog 42 = some 3 := by kernel_rfl
@[go_sem] theorem tby42 : tby Tryd.prog 42 = some 24 := by kernel_rfl
@[go_sem] theorem tzero42 : tzero Tryd.prog 42 = some (zArr .i64 3) := by kernel_rfl
@[go_sem] theorem tsz43 : tsz Tryd.prog 43 = some 6 := by kernel_rfl
@[go_sem] theorem tby43 : tby Tryd.prog 43 = some 48 := by kernel_rfl
@[go_sem] theorem tzero43 : tzero Tryd.prog 43 = some (zArr .i64 6) := by kernel_rfl
@[go_sem] theorem tsz44 : tsz Tryd.prog 44 = some 6 := by kernel_rfl
@[go_sem] theorem tby44 : tby Tryd.prog 44 = some 48 := by kernel_rfl
@[go_sem] theorem tzero44 : tzero Tryd.prog 44 = some (zArr .i64 6) := by kernel_rfl
@[go_sem] theorem tsz46 : tsz Tryd.prog 46 = some 1 := by kernel_rfl
@[go_sem] theorem tby46 : tby Tryd.prog 46 = some 8 := by kernel_rfl
@[go_sem] theorem tzero46 : tzero Tryd.prog 46 = some (.pointer none) := by kernel_rfl
@[go_sem] theorem tsz47 : tsz Tryd.prog 47 = some 2 := by kernel_rfl
@[go_sem] theorem tby47 : tby Tryd.prog 47 = some 32 := by kernel_rfl
@[go_sem] theorem tzero47 : tzero Tryd.prog 47 = some (.agg #[(.pointer none), (.slice none 0 0)]) := by kernel_rfl
@[go_sem] theorem tsz48 : tsz Tryd.prog 48 = some 2 := by kernel_rfl
@[go_sem] theorem tby48 : tby Tryd.prog 48 = some 32 := by kernel_rfl
@[go_sem] theorem tzero48 : tzero Tryd.prog 48 = some (.agg #[(.pointer none), (.slice none 0 0)]) := by kernel_rfl
@[go_sem] theorem tsz54 : tsz Tryd.prog 54 = some 5 := by kernel_rfl
@[go_sem] theorem tby54 : tby Tryd.prog 54 = some 40 := by kernel_rfl
@[go_sem] theorem tzero54 : tzero Tryd.prog 54 = some (zArr .i64 5) := by kernel_rfl
@[go_sem] theorem tsz56 : tsz Tryd.prog 56 = some 12 := by kernel_rfl
@[go_sem] theorem tby56 : tby Tryd.prog 56 = some 96 := by kernel_rfl
@[go_sem] theorem tzero56 : tzero Tryd.prog 56 = some (zArr .i64 12) := by kernel_rfl
@[go_sem] theorem tsz60 : tsz Tryd.prog 60 = some 1 := by kernel_rfl
@[go_sem] theorem tby60 : tby Tryd.prog 60 = some 8 := by kernel_rfl
@[go_sem] theorem tzero60 : tzero Tryd.prog 60 = some (.pointer none) := by kernel_rfl
@[go_sem] theorem tsz64 : tsz Tryd.prog 64 = some 1 := by kernel_rfl
@[go_sem] theorem tby64 : tby Tryd.prog 64 = some 8 := by kernel_rfl
@[go_sem] theorem tzero64 : tzero Tryd.prog 64 = some (.int .u64 0) := by kernel_rfl
@[go_sem] theorem tsz68 : tsz Tryd.prog 68 = some 1 := by kernel_rfl
@[go_sem] theorem tby68 : tby Tryd.prog 68 = some 8 := by kernel_rfl
@[go_sem] theorem tzero68 : tzero Tryd.prog 68 = some (.int .i64 0) := by kernel_rfl
@[go_sem] theorem tsz71 : tsz Tryd.prog 71 = some 1 := by kernel_rfl
@[go_sem] theorem tby71 : tby Tryd.prog 71 = some 8 := by kernel_rfl
@[go_sem] theorem tzero71 : tzero Tryd.prog 71 = some (.pointer none) := by kernel_rfl
@[go_sem] theorem tsz75 : tsz Tryd.prog 75 = some 1 := by kernel_rfl
@[go_sem] theorem tby75 : tby Tryd.prog 75 = some 4 := by kernel_rfl
@[go_sem] theorem tzero75 : tzero Tryd.prog 75 = some (.int .u32 0) := by kernel_rfl
@[go_sem] theorem tsz78 : tsz Tryd.prog 78 = some 1 := by kernel_rfl
@[go_sem] theorem tby78 : tby Tryd.prog 78 = some 8 := by kernel_rfl
@[go_sem] theorem tzero78 : tzero Tryd.prog 78 = some (.int .u64 0) := by kernel_rfl
@[go_sem] theorem tsz84 : tsz Tryd.prog 84 = some 3 := by kernel_rfl
@[go_sem] theorem tby84 : tby Tryd.prog 84 = some 48 := by kernel_rfl
@[go_sem] theorem tzero84 : tzero Tryd.prog 84 = some (.agg #[(.string ⟨#[]⟩), (.string ⟨#[]⟩), .nilIface]) := by kernel_rfl
@[go_sem] theorem tsz85 : tsz Tryd.prog 85 = some 3 := by kernel_rfl
@[go_sem] theorem tby85 : tby Tryd.prog 85 = some 48 := by kernel_rfl
@[go_sem] theorem tzero85 : tzero Tryd.prog 85 = some (.agg #[(.string ⟨#[]⟩), (.string ⟨#[]⟩), .nilIface]) := by kernel_rfl
@[go_sem] theorem tsz87 : tsz Tryd.prog 87 = some 24 := by kernel_rfl
@[go_sem] theorem tby87 : tby Tryd.prog 87 = some 24 := by kernel_rfl
@[go_sem] theorem tzero87 : tzero Tryd.prog 87 = some (zArr .u8 24) := by kernel_rfl
@[go_sem] theorem tsz94 : tsz Tryd.prog 94 = some 1 := by kernel_rfl
@[go_sem] theorem tby94 : tby Tryd.prog 94 = some 8 := by kernel_rfl
@[go_sem] theorem tzero94 : tzero Tryd.prog 94 = some (.pointer none) := by kernel_rfl
@[go_sem] theorem tsz95 : tsz Tryd.prog 95 = some 1 := by kernel_rfl
@[go_sem] theorem tby95 : tby Tryd.prog 95 = some 16 := by kernel_rfl
@[go_sem] theorem tzero95 : tzero Tryd.prog 95 = some (.agg #[(.string ⟨#[]⟩)]) := by kernel_rfl
@[go_sem] theorem tsz96 : tsz Tryd.prog 96 = some 1 := by kernel_rfl
@[go_sem] theorem tby96 : tby Tryd.prog 96 = some 16 := by kernel_rfl
@[go_sem] theorem tzero96 : tzero Tryd.prog 96 = some (.agg #[(.string ⟨#[]⟩)]) := by kernel_rfl
@[go_sem] theorem tsz98 : tsz Tryd.prog 98 = some 20 := by kernel_rfl
@[go_sem] theorem tby98 : tby Tryd.prog 98 = some 160 := by kernel_rfl
@[go_sem] theorem tzero98 : tzero Tryd.prog 98 = some (zArr .u64 20) := by kernel_rfl
@[go_sem] theorem tsz99 : tsz Tryd.prog 99 = some 65 := by kernel_rfl
@[go_sem] theorem tby99 : tby Tryd.prog 99 = some 65 := by kernel_rfl
@[go_sem] theorem tzero99 : tzero Tryd.prog 99 = some (zArr .u8 65) := by kernel_rfl
@[go_sem] theorem tsz102 : tsz Tryd.prog 102 = some 32 := by kernel_rfl
@[go_sem] theorem tby102 : tby Tryd.prog 102 = some 32 := by kernel_rfl
@[go_sem] theorem tzero102 : tzero Tryd.prog 102 = some (zArr .u8 32) := by kernel_rfl
@[go_sem] theorem tsz103 : tsz Tryd.prog 103 = some 64 := by kernel_rfl
@[go_sem] theorem tby103 : tby Tryd.prog 103 = some 64 := by kernel_rfl
@[go_sem] theorem tzero103 : tzero Tryd.prog 103 = some (zArr .u8 64) := by kernel_rfl
@[go_sem] theorem tsz104 : tsz Tryd.prog 104 = some 4 := by kernel_rfl
@[go_sem] theorem tby104 : tby Tryd.prog 104 = some 40 := by kernel_rfl
@[go_sem] theorem tzero104 : tzero Tryd.prog 104 = some (.agg #[(.pointer none), (.pointer none), (.pointer none), (.string ⟨#[]⟩)]) := by kernel_rfl
@[go_sem] theorem tsz105 : tsz Tryd.prog 105 = some 4 := by kernel_rfl
@[go_sem] theorem tby105 : tby Tryd.prog 105 = some 40 := by kernel_rfl
@[go_sem] theorem tzero105 : tzero Tryd.prog 105 = some (.agg #[(.pointer none), (.pointer none), (.pointer none), (.string ⟨#[]⟩)]) := by kernel_rfl
@[go_sem] theorem tsz106 : tsz Tryd.prog 106 = some 0 := by kernel_rfl
@[go_sem] theorem tby106 : tby Tryd.prog 106 = some 0 := by kernel_rfl
@[go_sem] theorem tzero106 : tzero Tryd.prog 106 = some (.agg #[]) := by kernel_rfl
@[go_sem] theorem tsz107 : tsz Tryd.prog 107 = some 0 := by kernel_rfl
@[go_sem] theorem tby107 : tby Tryd.prog 107 = some 0 := by kernel_rfl
@[go_sem] theorem tzero107 : tzero Tryd.prog 107 = some (.agg #[]) := by kernel_rfl
@[go_sem] theorem tsz108 : tsz Tryd.prog 108 = some 0 := by kernel_rfl
@[go_sem] theorem tby108 : tby Tryd.prog 108 = some 0 := by kernel_rfl
@[go_sem] theorem tzero108 : tzero Tryd.prog 108 = some (.agg #[]) := by kernel_rfl
@[go_sem] theorem tsz109 : tsz Tryd.prog 109 = some 1 := by kernel_rfl
@[go_sem] theorem tby109 : tby Tryd.prog 109 = some 1 := by kernel_rfl
@[go_sem] theorem tzero109 : tzero Tryd.prog 109 = some (.int .u8 0) := by kernel_rfl
@[go_sem] theorem tsz110 : tsz Tryd.prog 110 = some 1 := by kernel_rfl
@[go_sem] theorem tby110 : tby Tryd.prog 110 = some 1 := by kernel_rfl
@[go_sem] theorem tzero110 : tzero Tryd.prog 110 = some (.int .u8 0) := by kernel_rfl
@[go_sem] theorem tsz112 : tsz Tryd.prog 112 = some 1 := by kernel_rfl
@[go_sem] theorem tby112 : tby Tryd.prog 112 = some 4 := by kernel_rfl
@[go_sem] theorem tzero112 : tzero Tryd.prog 112 = some (.int .i32 0) := by kernel_rfl
@[go_sem] theorem tsz113 : tsz Tryd.prog 113 = some 1 := by kernel_rfl
@[go_sem] theorem tby113 : tby Tryd.prog 113 = some 4 := by kernel_rfl
@[go_sem] theorem tzero113 : tzero Tryd.prog 113 = some (.int .i32 0) := by kernel_rfl
@[go_sem] theorem tsz114 : tsz Tryd.prog 114 = some 11 := by kernel_rfl
@[go_sem] theorem tby114 : tby Tryd.prog 114 = some 48 := by kernel_rfl
@[go_sem] theorem tzero114 : tzero Tryd.prog 114 = some (.agg #[(.int .u64 0), (.int .u64 0), (.int .u32 0), (.int .u8 0), (.int .u8 0), (.int .u8 0), (.int .u8 0), .nilFunc, (.pointer none), (.int .i32 0), (.int .i32 0)]) := by kernel_rfl
@[go_sem] theorem tsz115 : tsz Tryd.prog 115 = some 11 := by kernel_rfl
@[go_sem] theorem tby115 : tby Tryd.prog 115 = some 48 := by kernel_rfl
@[go_sem] theorem tzero115 : tzero Tryd.prog 115 = some (.agg #[(.int .u64 0), (.int .u64 0), (.int .u32 0), (.int .u8 0), (.int .u8 0), (.int .u8 0), (.int .u8 0), .nilFunc, (.pointer none), (.int .i32 0), (.int .i32 0)]) := by kernel_rfl
@[go_sem] theorem und0 : Tryd.prog.underlying 0 = some (Go.TypeDesc.tuple #[]) := Tryd.underlying0
@[go_sem] theorem und1 : Tryd.prog.underlying 1 = some (Go.TypeDesc.func #[] #[] false) := Tryd.underlying1
@[go_sem] theorem und2 : Tryd.prog.underlying 2 = some (Go.TypeDesc.int Go.IntKind.i64) := Tryd.underlying2
@[go_sem] theorem und3 : Tryd.prog.underlying 3 = some (Go.TypeDesc.int Go.IntKind.i64) := Tryd.underlying3
@[go_sem] theorem und4 : Tryd.prog.underlying 4 = some Go.TypeDesc.bool := Tryd.underlying4
@[go_sem] theorem und5 : Tryd.prog.underlying 5 = some (Go.TypeDesc.int Go.IntKind.u8) := Tryd.underlying5
@[go_sem] theorem und6 : Tryd.prog.underlying 6 = some (Go.TypeDesc.int Go.IntKind.u8) := Tryd.underlying6
@[go_sem] theorem und7 : Tryd.prog.underlying 7 = some (Go.TypeDesc.struct #[{ name := "x", type := 2, offset := 0, embedded := false, tag := "", pkgPath := "runtime", byteOffset := 0 }, { name := "y", type := 3, offset := 1, embedded := false, tag := "", pkgPath := "runtime", byteOffset := 8 }, { name := "signed", type := 4, offset := 2, embedded := false, tag := "", pkgPath := "runtime", byteOffset := 16 }, { name := "code", type := 6, offset := 3, embedded := false, tag := "", pkgPath := "runtime", byteOffset := 17 }]) := Tryd.underlying7
@[go_sem] theorem und8 : Tryd.prog.underlying 8 = some (Go.TypeDesc.struct #[{ name := "x", type := 2, offset := 0, embedded := false, tag := "", pkgPath := "runtime", byteOffset := 0 }, { name := "y", type := 3, offset := 1, embedded := false, tag := "", pkgPath := "runtime", byteOffset := 8 }, { name := "signed", type := 4, offset := 2, embedded := false, tag := "", pkgPath := "runtime", byteOffset := 16 }, { name := "code", type := 6, offset := 3, embedded := false, tag := "", pkgPath := "runtime", byteOffset := 17 }]) := Tryd.underlying8
@[go_sem] theorem und9 : Tryd.prog.underlying 9 = some Go.TypeDesc.string := Tryd.underlying9
@[go_sem] theorem und10 : Tryd.prog.underlying 10 = some Go.TypeDesc.string := Tryd.underlying10
@[go_sem] theorem und11 : Tryd.prog.underlying 11 = some Go.TypeDesc.string := Tryd.underlying11
@[go_sem] theorem und12 : Tryd.prog.underlying 12 = some (Go.TypeDesc.int Go.IntKind.u64) := Tryd.underlying12
@[go_sem] theorem und13 : Tryd.prog.underlying 13 = some (Go.TypeDesc.struct #[{ name := "msg", type := 9, offset := 0, embedded := false, tag := "", pkgPath := "runtime", byteOffset := 0 }, { name := "addr", type := 12, offset := 1, embedded := false, tag := "", pkgPath := "runtime", byteOffset := 16 }]) := Tryd.underlying13
@[go_sem] theorem und14 : Tryd.prog.underlying 14 = some (Go.TypeDesc.struct #[{ name := "msg", type := 9, offset := 0, embedded := false, tag := "", pkgPath := "runtime", byteOffset := 0 }, { name := "addr", type := 12, offset := 1, embedded := false, tag := "", pkgPath := "runtime", byteOffset := 16 }]) := Tryd.underlying14
@[go_sem] theorem und15 : Tryd.prog.underlying 15 = some (Go.TypeDesc.pointer 105) := Tryd.underlying15
@[go_sem] theorem und16 : Tryd.prog.underlying 16 = some (Go.TypeDesc.pointer 108) := Tryd.underlying16
@[go_sem] theorem und17 : Tryd.prog.underlying 17 = some (Go.TypeDesc.pointer 115) := Tryd.underlying17
@[go_sem] theorem und18 : Tryd.prog.underlying 18 = some (Go.TypeDesc.struct #[{ name := "typ", type := 17, offset := 0, embedded := false, tag := "", pkgPath := "internal/runtime/maps", byteOffset := 0 }]) := Tryd.underlying18
@[go_sem] theorem und19 : Tryd.prog.underlying 19 = some (Go.TypeDesc.struct #[{ name := "typ", type := 17, offset := 0, embedded := false, tag := "", pkgPath := "internal/runtime/maps", byteOffset := 0 }]) := Tryd.underlying19
@[go_sem] theorem und20 : Tryd.prog.underlying 20 = some (Go.TypeDesc.interface #[]) := Tryd.underlying20
@[go_sem] theorem und21 : Tryd.prog.underlying 21 = some (Go.TypeDesc.int Go.IntKind.i32) := Tryd.underlying21
@[go_sem] theorem und22 : Tryd.prog.underlying 22 = some (Go.TypeDesc.func #[] #[4] false) := Tryd.underlying22
@[go_sem] theorem und23 : Tryd.prog.underlying 23 = some (Go.TypeDesc.int Go.IntKind.i64) := Tryd.underlying23
@[go_sem] theorem und24 : Tryd.prog.underlying 24 = some (Go.TypeDesc.tuple #[3, 23]) := Tryd.underlying24
@[go_sem] theorem und25 : Tryd.prog.underlying 25 = some (Go.TypeDesc.func #[9] #[3, 23] false) := Tryd.underlying25
@[go_sem] theorem und26 : Tryd.prog.underlying 26 = some (Go.TypeDesc.tuple #[3, 3]) := Tryd.underlying26
@[go_sem] theorem und27 : Tryd.prog.underlying 27 = some (Go.TypeDesc.func #[9] #[3, 3] false) := Tryd.underlying27
@[go_sem] theorem und28 : Tryd.prog.underlying 28 = some (Go.TypeDesc.tuple #[9, 23]) := Tryd.underlying28
@[go_sem] theorem und29 : Tryd.prog.underlying 29 = some (Go.TypeDesc.func #[3] #[9, 23] false) := Tryd.underlying29
@[go_sem] theorem und30 : Tryd.prog.underlying 30 = some (Go.TypeDesc.func #[9] #[4] false) := Tryd.underlying30
@[go_sem] theorem und31 : Tryd.prog.underlying 31 = some (Go.TypeDesc.func #[] #[3] false) := Tryd.underlying31
@[go_sem] theorem und32 : Tryd.prog.underlying 32 = some (Go.TypeDesc.func #[3] #[4] false) := Tryd.underlying32
@[go_sem] theorem und33 : Tryd.prog.underlying 33 = some (Go.TypeDesc.func #[3, 3] #[3] false) := Tryd.underlying33
@[go_sem] theorem und34 : Tryd.prog.underlying 34 = some (Go.TypeDesc.func #[3, 3, 3, 3, 3, 3] #[3] false) := Tryd.underlying34
@[go_sem] theorem und35 : Tryd.prog.underlying 35 = some (Go.TypeDesc.func #[3, 3, 3] #[4] false) := Tryd.underlying35
@[go_sem] theorem und36 : Tryd.prog.underlying 36 = some (Go.TypeDesc.slice 5) := Tryd.underlying36
@[go_sem] theorem und37 : Tryd.prog.underlying 37 = some (Go.TypeDesc.func #[3, 5, 5] #[4] false) := Tryd.underlying37
@[go_sem] theorem und38 : Tryd.prog.underlying 38 = some (Go.TypeDesc.func #[3, 3] #[4] false) := Tryd.underlying38
@[go_sem] theorem und39 : Tryd.prog.underlying 39 = some (Go.TypeDesc.func #[9, 9] #[4] false) := Tryd.underlying39
@[go_sem] theorem und40 : Tryd.prog.underlying 40 = some (Go.TypeDesc.func #[9] #[3] false) := Tryd.underlying40
@[go_sem] theorem und41 : Tryd.prog.underlying 41 = some (Go.TypeDesc.struct #[{ name := "year", type := 3, offset := 0, embedded := false, tag := "", pkgPath := "escutcheon/hour", byteOffset := 0 }, { name := "month", type := 3, offset := 1, embedded := false, tag := "", pkgPath := "escutcheon/hour", byteOffset := 8 }, { name := "day", type := 3, offset := 2, embedded := false, tag := "", pkgPath := "escutcheon/hour", byteOffset := 16 }]) := Tryd.underlying41
@[go_sem] theorem und42 : Tryd.prog.underlying 42 = some (Go.TypeDesc.struct #[{ name := "year", type := 3, offset := 0, embedded := false, tag := "", pkgPath := "escutcheon/hour", byteOffset := 0 }, { name := "month", type := 3, offset := 1, embedded := false, tag := "", pkgPath := "escutcheon/hour", byteOffset := 8 }, { name := "day", type := 3, offset := 2, embedded := false, tag := "", pkgPath := "escutcheon/hour", byteOffset := 16 }]) := Tryd.underlying42
@[go_sem] theorem und43 : Tryd.prog.underlying 43 = some (Go.TypeDesc.struct #[{ name := "date", type := 42, offset := 0, embedded := true, tag := "", pkgPath := "escutcheon/hour", byteOffset := 0 }, { name := "hour", type := 3, offset := 3, embedded := false, tag := "", pkgPath := "escutcheon/hour", byteOffset := 24 }, { name := "minute", type := 3, offset := 4, embedded := false, tag := "", pkgPath := "escutcheon/hour", byteOffset := 32 }, { name := "second", type := 3, offset := 5, embedded := false, tag := "", pkgPath := "escutcheon/hour", byteOffset := 40 }]) := Tryd.underlying43
@[go_sem] theorem und44 : Tryd.prog.underlying 44 = some (Go.TypeDesc.struct #[{ name := "date", type := 42, offset := 0, embedded := true, tag := "", pkgPath := "escutcheon/hour", byteOffset := 0 }, { name := "hour", type := 3, offset := 3, embedded := false, tag := "", pkgPath := "escutcheon/hour", byteOffset := 24 }, { name := "minute", type := 3, offset := 4, embedded := false, tag := "", pkgPath := "escutcheon/hour", byteOffset := 32 }, { name := "second", type := 3, offset := 5, embedded := false, tag := "", pkgPath := "escutcheon/hour", byteOffset := 40 }]) := Tryd.underlying44
@[go_sem] theorem und45 : Tryd.prog.underlying 45 = some (Go.TypeDesc.func #[3] #[44] false) := Tryd.underlying45
@[go_sem] theorem und46 : Tryd.prog.underlying 46 = some (Go.TypeDesc.pointer 48) := Tryd.underlying46
@[go_sem] theorem und47 : Tryd.prog.underlying 47 = some (Go.TypeDesc.struct #[{ name := "addr", type := 46, offset := 0, embedded := false, tag := "", pkgPath := "strings", byteOffset := 0 }, { name := "buf", type := 36, offset := 1, embedded := false, tag := "", pkgPath := "strings", byteOffset := 8 }]) := Tryd.underlying47
@[go_sem] theorem und48 : Tryd.prog.underlying 48 = some (Go.TypeDesc.struct #[{ name := "addr", type := 46, offset := 0, embedded := false, tag := "", pkgPath := "strings", byteOffset := 0 }, { name := "buf", type := 36, offset := 1, embedded := false, tag := "", pkgPath := "strings", byteOffset := 8 }]) := Tryd.underlying48
@[go_sem] theorem und49 : Tryd.prog.underlying 49 = some (Go.TypeDesc.interface #[("Error", 55)]) := Tryd.underlying49
@[go_sem] theorem und50 : Tryd.prog.underlying 50 = some (Go.TypeDesc.interface #[("Error", 55)]) := Tryd.underlying50
@[go_sem] theorem und51 : Tryd.prog.underlying 51 = some (Go.TypeDesc.tuple #[3, 50]) := Tryd.underlying51
@[go_sem] theorem und52 : Tryd.prog.underlying 52 = some (Go.TypeDesc.func #[9] #[3, 50] false) := Tryd.underlying52
@[go_sem] theorem und53 : Tryd.prog.underlying 53 = some (Go.TypeDesc.func #[3, 3] #[9] false) := Tryd.underlying53
@[go_sem] theorem und54 : Tryd.prog.underlying 54 = some (Go.TypeDesc.array 5 3) := Tryd.underlying54
@[go_sem] theorem und55 : Tryd.prog.underlying 55 = some (Go.TypeDesc.func #[] #[9] false) := Tryd.underlying55
@[go_sem] theorem und56 : Tryd.prog.underlying 56 = some (Go.TypeDesc.array 12 3) := Tryd.underlying56
@[go_sem] theorem und57 : Tryd.prog.underlying 57 = some (Go.TypeDesc.func #[3] #[3] false) := Tryd.underlying57
@[go_sem] theorem und58 : Tryd.prog.underlying 58 = some (Go.TypeDesc.func #[3] #[9] false) := Tryd.underlying58
@[go_sem] theorem und59 : Tryd.prog.underlying 59 = some (Go.TypeDesc.func #[9, 3] #[9] false) := Tryd.underlying59
@[go_sem] theorem und60 : Tryd.prog.underlying 60 = some (Go.TypeDesc.pointer 5) := Tryd.underlying60
@[go_sem] theorem und61 : Tryd.prog.underlying 61 = some (Go.TypeDesc.func #[9, 9, 3, 3, 50] #[50] false) := Tryd.underlying61
@[go_sem] theorem und62 : Tryd.prog.underlying 62 = some Go.TypeDesc.unsafePointer := Tryd.underlying62
@[go_sem] theorem und63 : Tryd.prog.underlying 63 = some (Go.TypeDesc.func #[62] #[62] false) := Tryd.underlying63
@[go_sem] theorem und64 : Tryd.prog.underlying 64 = some (Go.TypeDesc.int Go.IntKind.u64) := Tryd.underlying64
@[go_sem] theorem und65 : Tryd.prog.underlying 65 = some (Go.TypeDesc.tuple #[64, 64]) := Tryd.underlying65
@[go_sem] theorem und66 : Tryd.prog.underlying 66 = some (Go.TypeDesc.func #[64, 64] #[64, 64] false) := Tryd.underlying66
@[go_sem] theorem und67 : Tryd.prog.underlying 67 = some (Go.TypeDesc.func #[3] #[] false) := Tryd.underlying67
@[go_sem] theorem und68 : Tryd.prog.underlying 68 = some (Go.TypeDesc.int Go.IntKind.i64) := Tryd.underlying68
@[go_sem] theorem und69 : Tryd.prog.underlying 69 = some (Go.TypeDesc.tuple #[2, 50]) := Tryd.underlying69
@[go_sem] theorem und70 : Tryd.prog.underlying 70 = some (Go.TypeDesc.func #[9, 3, 3] #[2, 50] false) := Tryd.underlying70
@[go_sem] theorem und71 : Tryd.prog.underlying 71 = some (Go.TypeDesc.pointer 85) := Tryd.underlying71
@[go_sem] theorem und72 : Tryd.prog.underlying 72 = some (Go.TypeDesc.func #[9, 9] #[71] false) := Tryd.underlying72
@[go_sem] theorem und73 : Tryd.prog.underlying 73 = some (Go.TypeDesc.func #[9, 9, 3] #[71] false) := Tryd.underlying73
@[go_sem] theorem und74 : Tryd.prog.underlying 74 = some (Go.TypeDesc.func #[2, 3] #[9] false) := Tryd.underlying74
@[go_sem] theorem und75 : Tryd.prog.underlying 75 = some (Go.TypeDesc.int Go.IntKind.u32) := Tryd.underlying75
@[go_sem] theorem und76 : Tryd.prog.underlying 76 = some (Go.TypeDesc.tuple #[75, 75]) := Tryd.underlying76
@[go_sem] theorem und77 : Tryd.prog.underlying 77 = some (Go.TypeDesc.func #[75, 75] #[75, 75] false) := Tryd.underlying77
@[go_sem] theorem und78 : Tryd.prog.underlying 78 = some (Go.TypeDesc.int Go.IntKind.u64) := Tryd.underlying78
@[go_sem] theorem und79 : Tryd.prog.underlying 79 = some (Go.TypeDesc.tuple #[78, 78]) := Tryd.underlying79
@[go_sem] theorem und80 : Tryd.prog.underlying 80 = some (Go.TypeDesc.func #[78, 78] #[78, 78] false) := Tryd.underlying80
@[go_sem] theorem und81 : Tryd.prog.underlying 81 = some (Go.TypeDesc.tuple #[78, 50]) := Tryd.underlying81
@[go_sem] theorem und82 : Tryd.prog.underlying 82 = some (Go.TypeDesc.func #[9, 3, 3] #[78, 50] false) := Tryd.underlying82
@[go_sem] theorem und83 : Tryd.prog.underlying 83 = some (Go.TypeDesc.func #[9] #[9] false) := Tryd.underlying83
@[go_sem] theorem und84 : Tryd.prog.underlying 84 = some (Go.TypeDesc.struct #[{ name := "Func", type := 9, offset := 0, embedded := false, tag := "", pkgPath := "", byteOffset := 0 }, { name := "Num", type := 9, offset := 1, embedded := false, tag := "", pkgPath := "", byteOffset := 16 }, { name := "Err", type := 50, offset := 2, embedded := false, tag := "", pkgPath := "", byteOffset := 32 }]) := Tryd.underlying84
@[go_sem] theorem und85 : Tryd.prog.underlying 85 = some (Go.TypeDesc.struct #[{ name := "Func", type := 9, offset := 0, embedded := false, tag := "", pkgPath := "", byteOffset := 0 }, { name := "Num", type := 9, offset := 1, embedded := false, tag := "", pkgPath := "", byteOffset := 16 }, { name := "Err", type := 50, offset := 2, embedded := false, tag := "", pkgPath := "", byteOffset := 32 }]) := Tryd.underlying85
@[go_sem] theorem und86 : Tryd.prog.underlying 86 = some (Go.TypeDesc.func #[9] #[50] false) := Tryd.underlying86
@[go_sem] theorem und87 : Tryd.prog.underlying 87 = some (Go.TypeDesc.array 24 5) := Tryd.underlying87
@[go_sem] theorem und88 : Tryd.prog.underlying 88 = some (Go.TypeDesc.func #[78] #[3] false) := Tryd.underlying88
@[go_sem] theorem und89 : Tryd.prog.underlying 89 = some (Go.TypeDesc.func #[36, 78] #[] false) := Tryd.underlying89
@[go_sem] theorem und90 : Tryd.prog.underlying 90 = some (Go.TypeDesc.tuple #[36, 9]) := Tryd.underlying90
@[go_sem] theorem und91 : Tryd.prog.underlying 91 = some (Go.TypeDesc.func #[36, 78, 3, 4, 4] #[36, 9] false) := Tryd.underlying91
@[go_sem] theorem und92 : Tryd.prog.underlying 92 = some (Go.TypeDesc.func #[3] #[36] false) := Tryd.underlying92
@[go_sem] theorem und93 : Tryd.prog.underlying 93 = some (Go.TypeDesc.func #[5] #[5] false) := Tryd.underlying93
@[go_sem] theorem und94 : Tryd.prog.underlying 94 = some (Go.TypeDesc.pointer 96) := Tryd.underlying94
@[go_sem] theorem und95 : Tryd.prog.underlying 95 = some (Go.TypeDesc.struct #[{ name := "s", type := 9, offset := 0, embedded := false, tag := "", pkgPath := "errors", byteOffset := 0 }]) := Tryd.underlying95
@[go_sem] theorem und96 : Tryd.prog.underlying 96 = some (Go.TypeDesc.struct #[{ name := "s", type := 9, offset := 0, embedded := false, tag := "", pkgPath := "errors", byteOffset := 0 }]) := Tryd.underlying96
@[go_sem] theorem und97 : Tryd.prog.underlying 97 = some (Go.TypeDesc.func #[4] #[3] false) := Tryd.underlying97
@[go_sem] theorem und98 : Tryd.prog.underlying 98 = some (Go.TypeDesc.array 20 78) := Tryd.underlying98
@[go_sem] theorem und99 : Tryd.prog.underlying 99 = some (Go.TypeDesc.array 65 5) := Tryd.underlying99
@[go_sem] theorem und100 : Tryd.prog.underlying 100 = some (Go.TypeDesc.func #[64] #[3] false) := Tryd.underlying100
@[go_sem] theorem und101 : Tryd.prog.underlying 101 = some (Go.TypeDesc.func #[75] #[3] false) := Tryd.underlying101
@[go_sem] theorem und102 : Tryd.prog.underlying 102 = some (Go.TypeDesc.array 32 5) := Tryd.underlying102
@[go_sem] theorem und103 : Tryd.prog.underlying 103 = some (Go.TypeDesc.array 64 5) := Tryd.underlying103
@[go_sem] theorem und104 : Tryd.prog.underlying 104 = some (Go.TypeDesc.struct #[{ name := "_interface", type := 17, offset := 0, embedded := false, tag := "", pkgPath := "runtime", byteOffset := 0 }, { name := "concrete", type := 17, offset := 1, embedded := false, tag := "", pkgPath := "runtime", byteOffset := 8 }, { name := "asserted", type := 17, offset := 2, embedded := false, tag := "", pkgPath := "runtime", byteOffset := 16 }, { name := "missingMethod", type := 9, offset := 3, embedded := false, tag := "", pkgPath := "runtime", byteOffset := 24 }]) := Tryd.underlying104
@[go_sem] theorem und105 : Tryd.prog.underlying 105 = some (Go.TypeDesc.struct #[{ name := "_interface", type := 17, offset := 0, embedded := false, tag := "", pkgPath := "runtime", byteOffset := 0 }, { name := "concrete", type := 17, offset := 1, embedded := false, tag := "", pkgPath := "runtime", byteOffset := 8 }, { name := "asserted", type := 17, offset := 2, embedded := false, tag := "", pkgPath := "runtime", byteOffset := 16 }, { name := "missingMethod", type := 9, offset := 3, embedded := false, tag := "", pkgPath := "runtime", byteOffset := 24 }]) := Tryd.underlying105
@[go_sem] theorem und106 : Tryd.prog.underlying 106 = some (Go.TypeDesc.array 0 16) := Tryd.underlying106
@[go_sem] theorem und107 : Tryd.prog.underlying 107 = some (Go.TypeDesc.struct #[{ name := "_", type := 106, offset := 0, embedded := false, tag := "", pkgPath := "runtime", byteOffset := 0 }]) := Tryd.underlying107
@[go_sem] theorem und108 : Tryd.prog.underlying 108 = some (Go.TypeDesc.struct #[{ name := "_", type := 106, offset := 0, embedded := false, tag := "", pkgPath := "runtime", byteOffset := 0 }]) := Tryd.underlying108
@[go_sem] theorem und109 : Tryd.prog.underlying 109 = some (Go.TypeDesc.int Go.IntKind.u8) := Tryd.underlying109
@[go_sem] theorem und110 : Tryd.prog.underlying 110 = some (Go.TypeDesc.int Go.IntKind.u8) := Tryd.underlying110
@[go_sem] theorem und111 : Tryd.prog.underlying 111 = some (Go.TypeDesc.func #[62, 62] #[4] false) := Tryd.underlying111
@[go_sem] theorem und112 : Tryd.prog.underlying 112 = some (Go.TypeDesc.int Go.IntKind.i32) := Tryd.underlying112
@[go_sem] theorem und113 : Tryd.prog.underlying 113 = some (Go.TypeDesc.int Go.IntKind.i32) := Tryd.underlying113
@[go_sem] theorem und114 : Tryd.prog.underlying 114 = some (Go.TypeDesc.struct #[{ name := "Size_", type := 12, offset := 0, embedded := false, tag := "", pkgPath := "", byteOffset := 0 }, { name := "PtrBytes", type := 12, offset := 1, embedded := false, tag := "", pkgPath := "", byteOffset := 8 }, { name := "Hash", type := 75, offset := 2, embedded := false, tag := "", pkgPath := "", byteOffset := 16 }, { name := "TFlag", type := 109, offset := 3, embedded := false, tag := "", pkgPath := "", byteOffset := 20 }, { name := "Align_", type := 5, offset := 4, embedded := false, tag := "", pkgPath := "", byteOffset := 21 }, { name := "FieldAlign_", type := 5, offset := 5, embedded := false, tag := "", pkgPath := "", byteOffset := 22 }, { name := "Kind_", type := 110, offset := 6, embedded := false, tag := "", pkgPath := "", byteOffset := 23 }, { name := "Equal", type := 111, offset := 7, embedded := false, tag := "", pkgPath := "", byteOffset := 24 }, { name := "GCData", type := 60, offset := 8, embedded := false, tag := "", pkgPath := "", byteOffset := 32 }, { name := "Str", type := 112, offset := 9, embedded := false, tag := "", pkgPath := "", byteOffset := 40 }, { name := "PtrToThis", type := 113, offset := 10, embedded := false, tag := "", pkgPath := "", byteOffset := 44 }]) := Tryd.underlying114
@[go_sem] theorem und115 : Tryd.prog.underlying 115 = some (Go.TypeDesc.struct #[{ name := "Size_", type := 12, offset := 0, embedded := false, tag := "", pkgPath := "", byteOffset := 0 }, { name := "PtrBytes", type := 12, offset := 1, embedded := false, tag := "", pkgPath := "", byteOffset := 8 }, { name := "Hash", type := 75, offset := 2, embedded := false, tag := "", pkgPath := "", byteOffset := 16 }, { name := "TFlag", type := 109, offset := 3, embedded := false, tag := "", pkgPath := "", byteOffset := 20 }, { name := "Align_", type := 5, offset := 4, embedded := false, tag := "", pkgPath := "", byteOffset := 21 }, { name := "FieldAlign_", type := 5, offset := 5, embedded := false, tag := "", pkgPath := "", byteOffset := 22 }, { name := "Kind_", type := 110, offset := 6, embedded := false, tag := "", pkgPath := "", byteOffset := 23 }, { name := "Equal", type := 111, offset := 7, embedded := false, tag := "", pkgPath := "", byteOffset := 24 }, { name := "GCData", type := 60, offset := 8, embedded := false, tag := "", pkgPath := "", byteOffset := 32 }, { name := "Str", type := 112, offset := 9, embedded := false, tag := "", pkgPath := "", byteOffset := 40 }, { name := "PtrToThis", type := 113, offset := 10, embedded := false, tag := "", pkgPath := "", byteOffset := 44 }]) := Tryd.underlying115
end Go.Abs.S
