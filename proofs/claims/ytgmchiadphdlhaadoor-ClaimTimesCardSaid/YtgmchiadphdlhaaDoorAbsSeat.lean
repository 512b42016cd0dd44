/- Closed facts on the types of this seat's program. -/
import Derived.Test.YtgmchiadphdlhaaDoorAbsKit
import Derived.Test.YtgmchiadphdlhaaDoorProg
import Derived.KernelRfl
import GoSem.PinnedTables
namespace Go.Abs.S
open Go.Proofs
theorem mixed : Tryd.prog.follows .mixedOrders = true := by kernel_rfl
set_option maxRecDepth 100000
def lay_escutcheon_hour_months : List Int := [31, 28, 31, 30, 31, 30, 31, 31, 30, 31, 30, 31]
def cells_escutcheon_hour_months : List Value := lay_escutcheon_hour_months.map (Value.int .i64)
def av_escutcheon_hour_months : AV := .vptr (ints .i64 lay_escutcheon_hour_months) 0
def lay_unicode_utf8_first : List Int := List.map (fun (n : Nat) => (n : Int)) Go.Pinned.utf8FirstZ
def cells_unicode_utf8_first : List Value := lay_unicode_utf8_first.map (Value.int .u8)
def av_unicode_utf8_first : AV := .vptr (ints .u8 lay_unicode_utf8_first) 0
def lay_unicode_utf8_acceptRanges : List Int := [128, 191, 160, 191, 128, 159, 144, 191, 128, 143, 0, 0, 0, 0, 0, 0, 0, 0, 0, 0, 0, 0, 0, 0, 0, 0, 0, 0, 0, 0, 0, 0]
def cells_unicode_utf8_acceptRanges : List Value := lay_unicode_utf8_acceptRanges.map (Value.int .u8)
def av_unicode_utf8_acceptRanges : AV := .vptr (ints .u8 lay_unicode_utf8_acceptRanges) 0
def lay_internal_strconv_uint64pow10 : List Int := [1, 10, 100, 1000, 10000, 100000, 1000000, 10000000, 100000000, 1000000000, 10000000000, 100000000000, 1000000000000, 10000000000000, 100000000000000, 1000000000000000, 10000000000000000, 100000000000000000, 1000000000000000000, 10000000000000000000]
def cells_internal_strconv_uint64pow10 : List Value := lay_internal_strconv_uint64pow10.map (Value.int .u64)
def av_internal_strconv_uint64pow10 : AV := .vptr (ints .u64 lay_internal_strconv_uint64pow10) 0
def lay_math_bits_deBruijn32tab : List Int := [0, 1, 28, 2, 29, 14, 24, 3, 30, 22, 20, 15, 25, 17, 4, 8, 31, 27, 13, 23, 21, 19, 16, 7, 26, 12, 18, 6, 11, 5, 10, 9]
def cells_math_bits_deBruijn32tab : List Value := lay_math_bits_deBruijn32tab.map (Value.int .u8)
def av_math_bits_deBruijn32tab : AV := .vptr (ints .u8 lay_math_bits_deBruijn32tab) 0
def lay_math_bits_deBruijn64tab : List Int := [0, 1, 56, 2, 57, 49, 28, 3, 61, 58, 42, 50, 38, 29, 17, 4, 62, 47, 59, 36, 45, 43, 51, 22, 53, 39, 33, 30, 24, 18, 12, 5, 63, 55, 48, 27, 60, 41, 37, 16, 46, 35, 44, 21, 52, 32, 23, 11, 54, 26, 40, 15, 34, 20, 31, 10, 25, 14, 19, 9, 13, 8, 7, 6]
def cells_math_bits_deBruijn64tab : List Value := lay_math_bits_deBruijn64tab.map (Value.int .u8)
def av_math_bits_deBruijn64tab : AV := .vptr (ints .u8 lay_math_bits_deBruijn64tab) 0
/-- What is known of package-level variables. -/
def glob : Glob := fun g => if g = 0 then av_escutcheon_hour_months else if g = 1 then av_unicode_utf8_first else if g = 2 then av_unicode_utf8_acceptRanges else if g = 3 then av_internal_strconv_uint64pow10 else if g = 7 then av_math_bits_deBruijn32tab else if g = 8 then av_math_bits_deBruijn64tab else .any
theorem glob_escutcheon_hour_months : (match av_escutcheon_hour_months with | .vptr xs _ => xs | _ => []) = cells_escutcheon_hour_months.map .v := by
  first | rfl | simp [av_escutcheon_hour_months, cells_escutcheon_hour_months, ints]
@[go_sem] theorem globat0 : glob 0 = .vptr (ints .i64 lay_escutcheon_hour_months) 0 := rfl
theorem nr_escutcheon_hour_months : NR av_escutcheon_hour_months := NR.vptr (by
  intro c hc
  have h : c ∈ cells_escutcheon_hour_months.map AV.v := by rw [← glob_escutcheon_hour_months]; exact hc
  obtain ⟨x, _, rfl⟩ := List.mem_map.1 h
  exact NR.v x)
theorem glob_unicode_utf8_first : (match av_unicode_utf8_first with | .vptr xs _ => xs | _ => []) = cells_unicode_utf8_first.map .v := by
  first | rfl | simp [av_unicode_utf8_first, cells_unicode_utf8_first, ints]
@[go_sem] theorem globat1 : glob 1 = .vptr (ints .u8 lay_unicode_utf8_first) 0 := rfl
theorem nr_unicode_utf8_first : NR av_unicode_utf8_first := NR.vptr (by
  intro c hc
  have h : c ∈ cells_unicode_utf8_first.map AV.v := by rw [← glob_unicode_utf8_first]; exact hc
  obtain ⟨x, _, rfl⟩ := List.mem_map.1 h
  exact NR.v x)
theorem glob_unicode_utf8_acceptRanges : (match av_unicode_utf8_acceptRanges with | .vptr xs _ => xs | _ => []) = cells_unicode_utf8_acceptRanges.map .v := by
  first | rfl | simp [av_unicode_utf8_acceptRanges, cells_unicode_utf8_acceptRanges, ints]
@[go_sem] theorem globat2 : glob 2 = .vptr (ints .u8 lay_unicode_utf8_acceptRanges) 0 := rfl
theorem nr_unicode_utf8_acceptRanges : NR av_unicode_utf8_acceptRanges := NR.vptr (by
  intro c hc
  have h : c ∈ cells_unicode_utf8_acceptRanges.map AV.v := by rw [← glob_unicode_utf8_acceptRanges]; exact hc
  obtain ⟨x, _, rfl⟩ := List.mem_map.1 h
  exact NR.v x)
theorem glob_internal_strconv_uint64pow10 : (match av_internal_strconv_uint64pow10 with | .vptr xs _ => xs | _ => []) = cells_internal_strconv_uint64pow10.map .v := by
  first | rfl | simp [av_internal_strconv_uint64pow10, cells_internal_strconv_uint64pow10, ints]
@[go_sem] theorem globat3 : glob 3 = .vptr (ints .u64 lay_internal_strconv_uint64pow10) 0 := rfl
theorem nr_internal_strconv_uint64pow10 : NR av_internal_strconv_uint64pow10 := NR.vptr (by
  intro c hc
  have h : c ∈ cells_internal_strconv_uint64pow10.map AV.v := by rw [← glob_internal_strconv_uint64pow10]; exact hc
  obtain ⟨x, _, rfl⟩ := List.mem_map.1 h
  exact NR.v x)
theorem glob_math_bits_deBruijn32tab : (match av_math_bits_deBruijn32tab with | .vptr xs _ => xs | _ => []) = cells_math_bits_deBruijn32tab.map .v := by
  first | rfl | simp [av_math_bits_deBruijn32tab, cells_math_bits_deBruijn32tab, ints]
@[go_sem] theorem globat7 : glob 7 = .vptr (ints .u8 lay_math_bits_deBruijn32tab) 0 := rfl
theorem nr_math_bits_deBruijn32tab : NR av_math_bits_deBruijn32tab := NR.vptr (by
  intro c hc
  have h : c ∈ cells_math_bits_deBruijn32tab.map AV.v := by rw [← glob_math_bits_deBruijn32tab]; exact hc
  obtain ⟨x, _, rfl⟩ := List.mem_map.1 h
  exact NR.v x)
theorem glob_math_bits_deBruijn64tab : (match av_math_bits_deBruijn64tab with | .vptr xs _ => xs | _ => []) = cells_math_bits_deBruijn64tab.map .v := by
  first | rfl | simp [av_math_bits_deBruijn64tab, cells_math_bits_deBruijn64tab, ints]
@[go_sem] theorem globat8 : glob 8 = .vptr (ints .u8 lay_math_bits_deBruijn64tab) 0 := rfl
theorem nr_math_bits_deBruijn64tab : NR av_math_bits_deBruijn64tab := NR.vptr (by
  intro c hc
  have h : c ∈ cells_math_bits_deBruijn64tab.map AV.v := by rw [← glob_math_bits_deBruijn64tab]; exact hc
  obtain ⟨x, _, rfl⟩ := List.mem_map.1 h
  exact NR.v x)
theorem glob_nr : GN glob := by
  intro g
  unfold glob
  by_cases e0 : g = 0
  · rw [if_pos e0]
    exact nr_escutcheon_hour_months
  rw [if_neg e0]
  by_cases e1 : g = 1
  · rw [if_pos e1]
    exact nr_unicode_utf8_first
  rw [if_neg e1]
  by_cases e2 : g = 2
  · rw [if_pos e2]
    exact nr_unicode_utf8_acceptRanges
  rw [if_neg e2]
  by_cases e3 : g = 3
  · rw [if_pos e3]
    exact nr_internal_strconv_uint64pow10
  rw [if_neg e3]
  by_cases e7 : g = 7
  · rw [if_pos e7]
    exact nr_math_bits_deBruijn32tab
  rw [if_neg e7]
  by_cases e8 : g = 8
  · rw [if_pos e8]
    exact nr_math_bits_deBruijn64tab
  rw [if_neg e8]
  exact NR.any
theorem ctx : Ctx Tryd.prog glob := ⟨glob_nr, mixed⟩
@[go_sem] theorem tsz2 : tsz Tryd.prog 2 = some 1 := by kernel_rfl
@[go_sem] theorem tby2 : tby Tryd.prog 2 = some 8 := by kernel_rfl
@[go_sem] theorem tzero2 : tzero Tryd.prog 2 = some (.int .i64 0) := by kernel_rfl
@[go_sem] theorem tsz3 : tsz Tryd.prog 3 = some 1 := by kernel_rfl
@[go_sem] theorem tby3 : tby Tryd.prog 3 = some 8 := by kernel_rfl
@[go_sem] theorem tzero3 : tzero Tryd.prog 3 = some (.int .i64 0) := by kernel_rfl
@[go_sem] theorem tsz4 : tsz Tryd.prog 4 = some 1 := by kernel_rfl
@[go_sem] theorem tby4 : tby Tryd.prog 4 = some 1 := by kernel_rfl
@[go_sem] theorem tzero4 : tzero Tryd.prog 4 = some (.bool false) := by kernel_rfl
@[go_sem] theorem tsz5 : tsz Tryd.prog 5 = some 1 := by kernel_rfl
@[go_sem] theorem tby5 : tby Tryd.prog 5 = some 1 := by kernel_rfl
@[go_sem] theorem tzero5 : tzero Tryd.prog 5 = some (.int .u8 0) := by kernel_rfl
@[go_sem] theorem tsz6 : tsz Tryd.prog 6 = some 1 := by kernel_rfl
@[go_sem] theorem tby6 : tby Tryd.prog 6 = some 1 := by kernel_rfl
@[go_sem] theorem tzero6 : tzero Tryd.prog 6 = some (.int .u8 0) := by kernel_rfl
@[go_sem] theorem tsz7 : tsz Tryd.prog 7 = some 4 := by kernel_rfl
@[go_sem] theorem tby7 : tby Tryd.prog 7 = some 24 := by kernel_rfl
@[go_sem] theorem tzero7 : tzero Tryd.prog 7 = some (.agg #[(.int .i64 0), (.int .i64 0), (.bool false), (.int .u8 0)]) := by kernel_rfl
@[go_sem] theorem tsz8 : tsz Tryd.prog 8 = some 4 := by kernel_rfl
@[go_sem] theorem tby8 : tby Tryd.prog 8 = some 24 := by kernel_rfl
@[go_sem] theorem tzero8 : tzero Tryd.prog 8 = some (.agg #[(.int .i64 0), (.int .i64 0), (.bool false), (.int .u8 0)]) := by kernel_rfl
@[go_sem] theorem tsz9 : tsz Tryd.prog 9 = some 1 := by kernel_rfl
@[go_sem] theorem tby9 : tby Tryd.prog 9 = some 16 := by kernel_rfl
@[go_sem] theorem tzero9 : tzero Tryd.prog 9 = some (.string ⟨#[]⟩) := by kernel_rfl
@[go_sem] theorem row9 : Row Tryd.prog 9 := .inr (by kernel_rfl)
@[go_sem] theorem tsz10 : tsz Tryd.prog 10 = some 1 := by kernel_rfl
@[go_sem] theorem tby10 : tby Tryd.prog 10 = some 16 := by kernel_rfl
@[go_sem] theorem tzero10 : tzero Tryd.prog 10 = some (.string ⟨#[]⟩) := by kernel_rfl
@[go_sem] theorem row10 : Row Tryd.prog 10 := .inr (by kernel_rfl)
@[go_sem] theorem tsz11 : tsz Tryd.prog 11 = some 1 := by kernel_rfl
@[go_sem] theorem tby11 : tby Tryd.prog 11 = some 16 := by kernel_rfl
@[go_sem] theorem tzero11 : tzero Tryd.prog 11 = some (.string ⟨#[]⟩) := by kernel_rfl
@[go_sem] theorem row11 : Row Tryd.prog 11 := .inr (by kernel_rfl)
@[go_sem] theorem tsz12 : tsz Tryd.prog 12 = some 1 := by kernel_rfl
@[go_sem] theorem tby12 : tby Tryd.prog 12 = some 8 := by kernel_rfl
@[go_sem] theorem tzero12 : tzero Tryd.prog 12 = some (.int .u64 0) := by kernel_rfl
@[go_sem] theorem tsz13 : tsz Tryd.prog 13 = some 2 := by kernel_rfl
@[go_sem] theorem tby13 : tby Tryd.prog 13 = some 24 := by kernel_rfl
@[go_sem] theorem tzero13 : tzero Tryd.prog 13 = some (.agg #[(.string ⟨#[]⟩), (.int .u64 0)]) := by kernel_rfl
@[go_sem] theorem tsz14 : tsz Tryd.prog 14 = some 2 := by kernel_rfl
@[go_sem] theorem tby14 : tby Tryd.prog 14 = some 24 := by kernel_rfl
@[go_sem] theorem tzero14 : tzero Tryd.prog 14 = some (.agg #[(.string ⟨#[]⟩), (.int .u64 0)]) := by kernel_rfl
@[go_sem] theorem tsz15 : tsz Tryd.prog 15 = some 1 := by kernel_rfl
@[go_sem] theorem tby15 : tby Tryd.prog 15 = some 8 := by kernel_rfl
@[go_sem] theorem tzero15 : tzero Tryd.prog 15 = some (.pointer none) := by kernel_rfl
@[go_sem] theorem tsz16 : tsz Tryd.prog 16 = some 1 := by kernel_rfl
@[go_sem] theorem tby16 : tby Tryd.prog 16 = some 8 := by kernel_rfl
@[go_sem] theorem tzero16 : tzero Tryd.prog 16 = some (.pointer none) := by kernel_rfl
@[go_sem] theorem tsz17 : tsz Tryd.prog 17 = some 1 := by kernel_rfl
@[go_sem] theorem tby17 : tby Tryd.prog 17 = some 8 := by kernel_rfl
@[go_sem] theorem tzero17 : tzero Tryd.prog 17 = some (.pointer none) := by kernel_rfl
@[go_sem] theorem tsz18 : tsz Tryd.prog 18 = some 1 := by kernel_rfl
@[go_sem] theorem tby18 : tby Tryd.prog 18 = some 8 := by kernel_rfl
@[go_sem] theorem tzero18 : tzero Tryd.prog 18 = some (.agg #[(.pointer none)]) := by kernel_rfl
@[go_sem] theorem tsz19 : tsz Tryd.prog 19 = some 1 := by kernel_rfl
@[go_sem] theorem tby19 : tby Tryd.prog 19 = some 8 := by kernel_rfl
@[go_sem] theorem tzero19 : tzero Tryd.prog 19 = some (.agg #[(.pointer none)]) := by kernel_rfl
@[go_sem] theorem tsz21 : tsz Tryd.prog 21 = some 1 := by kernel_rfl
@[go_sem] theorem tby21 : tby Tryd.prog 21 = some 4 := by kernel_rfl
@[go_sem] theorem tzero21 : tzero Tryd.prog 21 = some (.int .i32 0) := by kernel_rfl
@[go_sem] theorem tsz22 : tsz Tryd.prog 22 = some 1 := by kernel_rfl
@[go_sem] theorem tby22 : tby Tryd.prog 22 = some 8 := by kernel_rfl
@[go_sem] theorem tzero22 : tzero Tryd.prog 22 = some (.int .i64 0) := by kernel_rfl
@[go_sem] theorem tsz23 : tsz Tryd.prog 23 = some 1 := by kernel_rfl
@[go_sem] theorem tby23 : tby Tryd.prog 23 = some 24 := by kernel_rfl
@[go_sem] theorem tzero23 : tzero Tryd.prog 23 = some (.slice none 0 0) := by kernel_rfl
@[go_sem] theorem row23 : Row Tryd.prog 23 := .inl ⟨9, by kernel_rfl⟩
@[go_sem] theorem tsz24 : tsz Tryd.prog 24 = some 1 := by kernel_rfl
@[go_sem] theorem tby24 : tby Tryd.prog 24 = some 24 := by kernel_rfl
@[go_sem] theorem tzero24 : tzero Tryd.prog 24 = some (.slice none 0 0) := by kernel_rfl
@[go_sem] theorem row24 : Row Tryd.prog 24 := .inl ⟨26, by kernel_rfl⟩
@[go_sem] theorem tsz25 : tsz Tryd.prog 25 = some 4 := by kernel_rfl
@[go_sem] theorem tby25 : tby Tryd.prog 25 = some 72 := by kernel_rfl
@[go_sem] theorem tzero25 : tzero Tryd.prog 25 = some (.agg #[(.int .i64 0), (.string ⟨#[]⟩), (.slice none 0 0), (.slice none 0 0)]) := by kernel_rfl
@[go_sem] theorem tsz26 : tsz Tryd.prog 26 = some 4 := by kernel_rfl
@[go_sem] theorem tby26 : tby Tryd.prog 26 = some 72 := by kernel_rfl
@[go_sem] theorem tzero26 : tzero Tryd.prog 26 = some (.agg #[(.int .i64 0), (.string ⟨#[]⟩), (.slice none 0 0), (.slice none 0 0)]) := by kernel_rfl
@[go_sem] theorem tsz27 : tsz Tryd.prog 27 = some 1 := by kernel_rfl
@[go_sem] theorem tby27 : tby Tryd.prog 27 = some 24 := by kernel_rfl
@[go_sem] theorem tzero27 : tzero Tryd.prog 27 = some (.slice none 0 0) := by kernel_rfl
@[go_sem] theorem row27 : Row Tryd.prog 27 := .inl ⟨40, by kernel_rfl⟩
@[go_sem] theorem tsz28 : tsz Tryd.prog 28 = some 2 := by kernel_rfl
@[go_sem] theorem tby28 : tby Tryd.prog 28 = some 48 := by kernel_rfl
@[go_sem] theorem tzero28 : tzero Tryd.prog 28 = some (.agg #[(.slice none 0 0), (.slice none 0 0)]) := by kernel_rfl
@[go_sem] theorem tsz31 : tsz Tryd.prog 31 = some 1 := by kernel_rfl
@[go_sem] theorem tby31 : tby Tryd.prog 31 = some 8 := by kernel_rfl
@[go_sem] theorem tzero31 : tzero Tryd.prog 31 = some (.int .i64 0) := by kernel_rfl
@[go_sem] theorem tsz38 : tsz Tryd.prog 38 = some 1 := by kernel_rfl
@[go_sem] theorem tby38 : tby Tryd.prog 38 = some 8 := by kernel_rfl
@[go_sem] theorem tzero38 : tzero Tryd.prog 38 = some (.int .i64 0) := by kernel_rfl
@[go_sem] theorem tsz39 : tsz Tryd.prog 39 = some 3 := by kernel_rfl
@[go_sem] theorem tby39 : tby Tryd.prog 39 = some 40 := by kernel_rfl
@[go_sem] theorem tzero39 : tzero Tryd.prog 39 = some (.agg #[(.int .i64 0), (.string ⟨#[]⟩), (.string ⟨#[]⟩)]) := by kernel_rfl
@[go_sem] theorem tsz40 : tsz Tryd.prog 40 = some 3 := by kernel_rfl
@[go_sem] theorem tby40 : tby Tryd.prog 40 = some 40 := by kernel_rfl
@[go_sem] theorem tzero40 : tzero Tryd.prog 40 = some (.agg #[(.int .i64 0), (.string ⟨#[]⟩), (.string ⟨#[]⟩)]) := by kernel_rfl
@[go_sem] theorem tsz42 : tsz Tryd.prog 42 = some 5 := by kernel_rfl
@[go_sem] theorem tby42 : tby Tryd.prog 42 = some 72 := by kernel_rfl
@[go_sem] theorem tzero42 : tzero Tryd.prog 42 = some (.agg #[(.string ⟨#[]⟩), (.string ⟨#[]⟩), (.int .i64 0), (.int .i64 0), (.slice none 0 0)]) := by kernel_rfl
@[go_sem] theorem tsz43 : tsz Tryd.prog 43 = some 5 := by kernel_rfl
@[go_sem] theorem tby43 : tby Tryd.prog 43 = some 72 := by kernel_rfl
@[go_sem] theorem tzero43 : tzero Tryd.prog 43 = some (.agg #[(.string ⟨#[]⟩), (.string ⟨#[]⟩), (.int .i64 0), (.int .i64 0), (.slice none 0 0)]) := by kernel_rfl
@[go_sem] theorem tsz46 : tsz Tryd.prog 46 = some 2 := by kernel_rfl
@[go_sem] theorem tby46 : tby Tryd.prog 46 = some 16 := by kernel_rfl
@[go_sem] theorem tzero46 : tzero Tryd.prog 46 = some (zArr .i64 2) := by kernel_rfl
@[go_sem] theorem tsz51 : tsz Tryd.prog 51 = some 5 := by kernel_rfl
@[go_sem] theorem tby51 : tby Tryd.prog 51 = some 80 := by kernel_rfl
@[go_sem] theorem tzero51 : tzero Tryd.prog 51 = some (.agg #[(.int .i64 0), (.string ⟨#[]⟩), (.slice none 0 0), (.slice none 0 0), (.int .i64 0)]) := by kernel_rfl
@[go_sem] theorem tsz52 : tsz Tryd.prog 52 = some 5 := by kernel_rfl
@[go_sem] theorem tby52 : tby Tryd.prog 52 = some 80 := by kernel_rfl
@[go_sem] theorem tzero52 : tzero Tryd.prog 52 = some (.agg #[(.int .i64 0), (.string ⟨#[]⟩), (.slice none 0 0), (.slice none 0 0), (.int .i64 0)]) := by kernel_rfl
@[go_sem] theorem tsz55 : tsz Tryd.prog 55 = some 3 := by kernel_rfl
@[go_sem] theorem tby55 : tby Tryd.prog 55 = some 24 := by kernel_rfl
@[go_sem] theorem tzero55 : tzero Tryd.prog 55 = some (zArr .i64 3) := by kernel_rfl
@[go_sem] theorem tsz56 : tsz Tryd.prog 56 = some 3 := by kernel_rfl
@[go_sem] theorem tby56 : tby Tryd.prog 56 = some 24 := by kernel_rfl
@[go_sem] theorem tzero56 : tzero Tryd.prog 56 = some (zArr .i64 3) := by kernel_rfl
@[go_sem] theorem tsz57 : tsz Tryd.prog 57 = some 6 := by kernel_rfl
@[go_sem] theorem tby57 : tby Tryd.prog 57 = some 48 := by kernel_rfl
@[go_sem] theorem tzero57 : tzero Tryd.prog 57 = some (zArr .i64 6) := by kernel_rfl
@[go_sem] theorem tsz58 : tsz Tryd.prog 58 = some 6 := by kernel_rfl
@[go_sem] theorem tby58 : tby Tryd.prog 58 = some 48 := by kernel_rfl
@[go_sem] theorem tzero58 : tzero Tryd.prog 58 = some (zArr .i64 6) := by kernel_rfl
@[go_sem] theorem tsz60 : tsz Tryd.prog 60 = some 1 := by kernel_rfl
@[go_sem] theorem tby60 : tby Tryd.prog 60 = some 8 := by kernel_rfl
@[go_sem] theorem tzero60 : tzero Tryd.prog 60 = some (.pointer none) := by kernel_rfl
@[go_sem] theorem tsz61 : tsz Tryd.prog 61 = some 1 := by kernel_rfl
@[go_sem] theorem tby61 : tby Tryd.prog 61 = some 24 := by kernel_rfl
@[go_sem] theorem tzero61 : tzero Tryd.prog 61 = some (.slice none 0 0) := by kernel_rfl
@[go_sem] theorem row61 : Row Tryd.prog 61 := .inl ⟨5, by kernel_rfl⟩
@[go_sem] theorem tsz62 : tsz Tryd.prog 62 = some 2 := by kernel_rfl
@[go_sem] theorem tby62 : tby Tryd.prog 62 = some 32 := by kernel_rfl
@[go_sem] theorem tzero62 : tzero Tryd.prog 62 = some (.agg #[(.pointer none), (.slice none 0 0)]) := by kernel_rfl
@[go_sem] theorem tsz63 : tsz Tryd.prog 63 = some 2 := by kernel_rfl
@[go_sem] theorem tby63 : tby Tryd.prog 63 = some 32 := by kernel_rfl
@[go_sem] theorem tzero63 : tzero Tryd.prog 63 = some (.agg #[(.pointer none), (.slice none 0 0)]) := by kernel_rfl
@[go_sem] theorem tsz69 : tsz Tryd.prog 69 = some 5 := by kernel_rfl
@[go_sem] theorem tby69 : tby Tryd.prog 69 = some 40 := by kernel_rfl
@[go_sem] theorem tzero69 : tzero Tryd.prog 69 = some (zArr .i64 5) := by kernel_rfl
@[go_sem] theorem tsz86 : tsz Tryd.prog 86 = some 1 := by kernel_rfl
@[go_sem] theorem tby86 : tby Tryd.prog 86 = some 8 := by kernel_rfl
@[go_sem] theorem tzero86 : tzero Tryd.prog 86 = some (.pointer none) := by kernel_rfl
@[go_sem] theorem tsz88 : tsz Tryd.prog 88 = some 1 := by kernel_rfl
@[go_sem] theorem tby88 : tby Tryd.prog 88 = some 24 := by kernel_rfl
@[go_sem] theorem tzero88 : tzero Tryd.prog 88 = some (.slice none 0 0) := by kernel_rfl
@[go_sem] theorem row88 : Row Tryd.prog 88 := .inl ⟨23, by kernel_rfl⟩
@[go_sem] theorem tsz94 : tsz Tryd.prog 94 = some 12 := by kernel_rfl
@[go_sem] theorem tby94 : tby Tryd.prog 94 = some 96 := by kernel_rfl
@[go_sem] theorem tzero94 : tzero Tryd.prog 94 = some (zArr .i64 12) := by kernel_rfl
@[go_sem] theorem tsz97 : tsz Tryd.prog 97 = some 1 := by kernel_rfl
@[go_sem] theorem tby97 : tby Tryd.prog 97 = some 8 := by kernel_rfl
@[go_sem] theorem tzero97 : tzero Tryd.prog 97 = some (.int .u64 0) := by kernel_rfl
@[go_sem] theorem tsz108 : tsz Tryd.prog 108 = some 1 := by kernel_rfl
@[go_sem] theorem tby108 : tby Tryd.prog 108 = some 4 := by kernel_rfl
@[go_sem] theorem tzero108 : tzero Tryd.prog 108 = some (.int .u32 0) := by kernel_rfl
@[go_sem] theorem tsz111 : tsz Tryd.prog 111 = some 1 := by kernel_rfl
@[go_sem] theorem tby111 : tby Tryd.prog 111 = some 8 := by kernel_rfl
@[go_sem] theorem tzero111 : tzero Tryd.prog 111 = some (.int .u64 0) := by kernel_rfl
@[go_sem] theorem tsz115 : tsz Tryd.prog 115 = some 256 := by kernel_rfl
@[go_sem] theorem tby115 : tby Tryd.prog 115 = some 256 := by kernel_rfl
@[go_sem] theorem tzero115 : tzero Tryd.prog 115 = some (zArr .u8 256) := by kernel_rfl
@[go_sem] theorem tsz116 : tsz Tryd.prog 116 = some 2 := by kernel_rfl
@[go_sem] theorem tby116 : tby Tryd.prog 116 = some 2 := by kernel_rfl
@[go_sem] theorem tzero116 : tzero Tryd.prog 116 = some (zArr .u8 2) := by kernel_rfl
@[go_sem] theorem tsz117 : tsz Tryd.prog 117 = some 2 := by kernel_rfl
@[go_sem] theorem tby117 : tby Tryd.prog 117 = some 2 := by kernel_rfl
@[go_sem] theorem tzero117 : tzero Tryd.prog 117 = some (zArr .u8 2) := by kernel_rfl
@[go_sem] theorem tsz118 : tsz Tryd.prog 118 = some 32 := by kernel_rfl
@[go_sem] theorem tby118 : tby Tryd.prog 118 = some 32 := by kernel_rfl
@[go_sem] theorem tzero118 : tzero Tryd.prog 118 = some (zArr .u8 32) := by kernel_rfl
@[go_sem] theorem tsz120 : tsz Tryd.prog 120 = some 24 := by kernel_rfl
@[go_sem] theorem tby120 : tby Tryd.prog 120 = some 24 := by kernel_rfl
@[go_sem] theorem tzero120 : tzero Tryd.prog 120 = some (zArr .u8 24) := by kernel_rfl
@[go_sem] theorem tsz128 : tsz Tryd.prog 128 = some 20 := by kernel_rfl
@[go_sem] theorem tby128 : tby Tryd.prog 128 = some 160 := by kernel_rfl
@[go_sem] theorem tzero128 : tzero Tryd.prog 128 = some (zArr .u64 20) := by kernel_rfl
@[go_sem] theorem tsz129 : tsz Tryd.prog 129 = some 65 := by kernel_rfl
@[go_sem] theorem tby129 : tby Tryd.prog 129 = some 65 := by kernel_rfl
@[go_sem] theorem tzero129 : tzero Tryd.prog 129 = some (zArr .u8 65) := by kernel_rfl
@[go_sem] theorem tsz131 : tsz Tryd.prog 131 = some 1 := by kernel_rfl
@[go_sem] theorem tby131 : tby Tryd.prog 131 = some 8 := by kernel_rfl
@[go_sem] theorem tzero131 : tzero Tryd.prog 131 = some (.int .i64 0) := by kernel_rfl
@[go_sem] theorem tsz134 : tsz Tryd.prog 134 = some 1 := by kernel_rfl
@[go_sem] theorem tby134 : tby Tryd.prog 134 = some 8 := by kernel_rfl
@[go_sem] theorem tzero134 : tzero Tryd.prog 134 = some (.pointer none) := by kernel_rfl
@[go_sem] theorem tsz141 : tsz Tryd.prog 141 = some 3 := by kernel_rfl
@[go_sem] theorem tby141 : tby Tryd.prog 141 = some 48 := by kernel_rfl
@[go_sem] theorem tzero141 : tzero Tryd.prog 141 = some (.agg #[(.string ⟨#[]⟩), (.string ⟨#[]⟩), .nilIface]) := by kernel_rfl
@[go_sem] theorem tsz142 : tsz Tryd.prog 142 = some 3 := by kernel_rfl
@[go_sem] theorem tby142 : tby Tryd.prog 142 = some 48 := by kernel_rfl
@[go_sem] theorem tzero142 : tzero Tryd.prog 142 = some (.agg #[(.string ⟨#[]⟩), (.string ⟨#[]⟩), .nilIface]) := by kernel_rfl
@[go_sem] theorem tsz144 : tsz Tryd.prog 144 = some 32 := by kernel_rfl
@[go_sem] theorem tby144 : tby Tryd.prog 144 = some 32 := by kernel_rfl
@[go_sem] theorem tzero144 : tzero Tryd.prog 144 = some (zArr .u8 32) := by kernel_rfl
@[go_sem] theorem tsz145 : tsz Tryd.prog 145 = some 64 := by kernel_rfl
@[go_sem] theorem tby145 : tby Tryd.prog 145 = some 64 := by kernel_rfl
@[go_sem] theorem tzero145 : tzero Tryd.prog 145 = some (zArr .u8 64) := by kernel_rfl
@[go_sem] theorem tsz147 : tsz Tryd.prog 147 = some 1 := by kernel_rfl
@[go_sem] theorem tby147 : tby Tryd.prog 147 = some 8 := by kernel_rfl
@[go_sem] theorem tzero147 : tzero Tryd.prog 147 = some (.pointer none) := by kernel_rfl
@[go_sem] theorem tsz148 : tsz Tryd.prog 148 = some 1 := by kernel_rfl
@[go_sem] theorem tby148 : tby Tryd.prog 148 = some 16 := by kernel_rfl
@[go_sem] theorem tzero148 : tzero Tryd.prog 148 = some (.agg #[(.string ⟨#[]⟩)]) := by kernel_rfl
@[go_sem] theorem tsz149 : tsz Tryd.prog 149 = some 1 := by kernel_rfl
@[go_sem] theorem tby149 : tby Tryd.prog 149 = some 16 := by kernel_rfl
@[go_sem] theorem tzero149 : tzero Tryd.prog 149 = some (.agg #[(.string ⟨#[]⟩)]) := by kernel_rfl
@[go_sem] theorem tsz150 : tsz Tryd.prog 150 = some 4 := by kernel_rfl
@[go_sem] theorem tby150 : tby Tryd.prog 150 = some 40 := by kernel_rfl
@[go_sem] theorem tzero150 : tzero Tryd.prog 150 = some (.agg #[(.pointer none), (.pointer none), (.pointer none), (.string ⟨#[]⟩)]) := by kernel_rfl
@[go_sem] theorem tsz151 : tsz Tryd.prog 151 = some 4 := by kernel_rfl
@[go_sem] theorem tby151 : tby Tryd.prog 151 = some 40 := by kernel_rfl
@[go_sem] theorem tzero151 : tzero Tryd.prog 151 = some (.agg #[(.pointer none), (.pointer none), (.pointer none), (.string ⟨#[]⟩)]) := by kernel_rfl
@[go_sem] theorem tsz152 : tsz Tryd.prog 152 = some 0 := by kernel_rfl
@[go_sem] theorem tby152 : tby Tryd.prog 152 = some 0 := by kernel_rfl
@[go_sem] theorem tzero152 : tzero Tryd.prog 152 = some (.agg #[]) := by kernel_rfl
@[go_sem] theorem tsz153 : tsz Tryd.prog 153 = some 0 := by kernel_rfl
@[go_sem] theorem tby153 : tby Tryd.prog 153 = some 0 := by kernel_rfl
@[go_sem] theorem tzero153 : tzero Tryd.prog 153 = some (.agg #[]) := by kernel_rfl
@[go_sem] theorem tsz154 : tsz Tryd.prog 154 = some 0 := by kernel_rfl
@[go_sem] theorem tby154 : tby Tryd.prog 154 = some 0 := by kernel_rfl
@[go_sem] theorem tzero154 : tzero Tryd.prog 154 = some (.agg #[]) := by kernel_rfl
@[go_sem] theorem tsz155 : tsz Tryd.prog 155 = some 1 := by kernel_rfl
@[go_sem] theorem tby155 : tby Tryd.prog 155 = some 1 := by kernel_rfl
@[go_sem] theorem tzero155 : tzero Tryd.prog 155 = some (.int .u8 0) := by kernel_rfl
@[go_sem] theorem tsz156 : tsz Tryd.prog 156 = some 1 := by kernel_rfl
@[go_sem] theorem tby156 : tby Tryd.prog 156 = some 1 := by kernel_rfl
@[go_sem] theorem tzero156 : tzero Tryd.prog 156 = some (.int .u8 0) := by kernel_rfl
@[go_sem] theorem tsz158 : tsz Tryd.prog 158 = some 1 := by kernel_rfl
@[go_sem] theorem tby158 : tby Tryd.prog 158 = some 4 := by kernel_rfl
@[go_sem] theorem tzero158 : tzero Tryd.prog 158 = some (.int .i32 0) := by kernel_rfl
@[go_sem] theorem tsz159 : tsz Tryd.prog 159 = some 1 := by kernel_rfl
@[go_sem] theorem tby159 : tby Tryd.prog 159 = some 4 := by kernel_rfl
@[go_sem] theorem tzero159 : tzero Tryd.prog 159 = some (.int .i32 0) := by kernel_rfl
@[go_sem] theorem tsz160 : tsz Tryd.prog 160 = some 11 := by kernel_rfl
@[go_sem] theorem tby160 : tby Tryd.prog 160 = some 48 := by kernel_rfl
@[go_sem] theorem tzero160 : tzero Tryd.prog 160 = some (.agg #[(.int .u64 0), (.int .u64 0), (.int .u32 0), (.int .u8 0), (.int .u8 0), (.int .u8 0), (.int .u8 0), .nilFunc, (.pointer none), (.int .i32 0), (.int .i32 0)]) := by kernel_rfl
@[go_sem] theorem tsz161 : tsz Tryd.prog 161 = some 11 := by kernel_rfl
@[go_sem] theorem tby161 : tby Tryd.prog 161 = some 48 := by kernel_rfl
@[go_sem] theorem tzero161 : tzero Tryd.prog 161 = some (.agg #[(.int .u64 0), (.int .u64 0), (.int .u32 0), (.int .u8 0), (.int .u8 0), (.int .u8 0), (.int .u8 0), .nilFunc, (.pointer none), (.int .i32 0), (.int .i32 0)]) := by kernel_rfl
@[go_sem] theorem und0 : Tryd.prog.underlying 0 = some (Go.TypeDesc.tuple #[]) := Tryd.underlying0
@[go_sem] theorem und1 : Tryd.prog.underlying 1 = some (Go.TypeDesc.func #[] #[] false) := Tryd.underlying1
@[go_sem] theorem und2 : Tryd.prog.underlying 2 = some (Go.TypeDesc.int Go.IntKind.i64) := Tryd.underlying2
@[go_sem] theorem und3 : Tryd.prog.underlying 3 = some (Go.TypeDesc.int Go.IntKind.i64) := Tryd.underlying3
@[go_sem] theorem und4 : Tryd.prog.underlying 4 = some Go.TypeDesc.bool := Tryd.underlying4
@[go_sem] theorem und5 : Tryd.prog.underlying 5 = some (Go.TypeDesc.int Go.IntKind.u8) := Tryd.underlying5
@[go_sem] theorem und6 : Tryd.prog.underlying 6 = some (Go.TypeDesc.int Go.IntKind.u8) := Tryd.underlying6
@[go_sem] theorem und7 : Tryd.prog.underlying 7 = some (Go.TypeDesc.struct #[{ name := "x", type := 2, offset := 0, embedded := false, tag := "", pkgPath := "runtime", byteOffset := 0 }, { name := "y", type := 3, offset := 1, embedded := false, tag := "", pkgPath := "runtime", byteOffset := 8 }, { name := "signed", type := 4, offset := 2, embedded := false, tag := "", pkgPath := "runtime", byteOffset := 16 }, { name := "code", type := 6, offset := 3, embedded := false, tag := "", pkgPath := "runtime", byteOffset := 17 }]) := Tryd.underlying7
@[go_sem] theorem und8 : Tryd.prog.underlying 8 = some (Go.TypeDesc.struct #[{ name := "x", type := 2, offset := 0, embedded := false, tag := "", pkgPath := "runtime", byteOffset := 0 }, { name := "y", type := 3, offset := 1, embedded := false, tag := "", pkgPath := "runtime", byteOffset := 8 }, { name := "signed", type := 4, offset := 2, embedded := false, tag := "", pkgPath := "runtime", byteOffset := 16 }, { name := "code", type := 6, offset := 3, embedded := false, tag := "", pkgPath := "runtime", byteOffset := 17 }]) := Tryd.underlying8
@[go_sem] theorem und9 : Tryd.prog.underlying 9 = some Go.TypeDesc.string := Tryd.underlying9
@[go_sem] theorem und10 : Tryd.prog.underlying 10 = some Go.TypeDesc.string := Tryd.underlying10
@[go_sem] theorem und11 : Tryd.prog.underlying 11 = some Go.TypeDesc.string := Tryd.underlying11
@[go_sem] theorem und12 : Tryd.prog.underlying 12 = some (Go.TypeDesc.int Go.IntKind.u64) := Tryd.underlying12
@[go_sem] theorem und13 : Tryd.prog.underlying 13 = some (Go.TypeDesc.struct #[{ name := "msg", type := 9, offset := 0, embedded := false, tag := "", pkgPath := "runtime", byteOffset := 0 }, { name := "addr", type := 12, offset := 1, embedded := false, tag := "", pkgPath := "runtime", byteOffset := 16 }]) := Tryd.underlying13
@[go_sem] theorem und14 : Tryd.prog.underlying 14 = some (Go.TypeDesc.struct #[{ name := "msg", type := 9, offset := 0, embedded := false, tag := "", pkgPath := "runtime", byteOffset := 0 }, { name := "addr", type := 12, offset := 1, embedded := false, tag := "", pkgPath := "runtime", byteOffset := 16 }]) := Tryd.underlying14
@[go_sem] theorem und15 : Tryd.prog.underlying 15 = some (Go.TypeDesc.pointer 151) := Tryd.underlying15
@[go_sem] theorem und16 : Tryd.prog.underlying 16 = some (Go.TypeDesc.pointer 154) := Tryd.underlying16
@[go_sem] theorem und17 : Tryd.prog.underlying 17 = some (Go.TypeDesc.pointer 161) := Tryd.underlying17
@[go_sem] theorem und18 : Tryd.prog.underlying 18 = some (Go.TypeDesc.struct #[{ name := "typ", type := 17, offset := 0, embedded := false, tag := "", pkgPath := "internal/runtime/maps", byteOffset := 0 }]) := Tryd.underlying18
@[go_sem] theorem und19 : Tryd.prog.underlying 19 = some (Go.TypeDesc.struct #[{ name := "typ", type := 17, offset := 0, embedded := false, tag := "", pkgPath := "internal/runtime/maps", byteOffset := 0 }]) := Tryd.underlying19
@[go_sem] theorem und20 : Tryd.prog.underlying 20 = some (Go.TypeDesc.interface #[]) := Tryd.underlying20
@[go_sem] theorem und21 : Tryd.prog.underlying 21 = some (Go.TypeDesc.int Go.IntKind.i32) := Tryd.underlying21
@[go_sem] theorem und22 : Tryd.prog.underlying 22 = some (Go.TypeDesc.int Go.IntKind.i64) := Tryd.underlying22
@[go_sem] theorem und23 : Tryd.prog.underlying 23 = some (Go.TypeDesc.slice 9) := Tryd.underlying23
@[go_sem] theorem und24 : Tryd.prog.underlying 24 = some (Go.TypeDesc.slice 26) := Tryd.underlying24
@[go_sem] theorem und25 : Tryd.prog.underlying 25 = some (Go.TypeDesc.struct #[{ name := "Kind", type := 22, offset := 0, embedded := false, tag := "", pkgPath := "", byteOffset := 0 }, { name := "Text", type := 9, offset := 1, embedded := false, tag := "", pkgPath := "", byteOffset := 8 }, { name := "Names", type := 23, offset := 2, embedded := false, tag := "", pkgPath := "", byteOffset := 24 }, { name := "Values", type := 24, offset := 3, embedded := false, tag := "", pkgPath := "", byteOffset := 48 }]) := Tryd.underlying25
@[go_sem] theorem und26 : Tryd.prog.underlying 26 = some (Go.TypeDesc.struct #[{ name := "Kind", type := 22, offset := 0, embedded := false, tag := "", pkgPath := "", byteOffset := 0 }, { name := "Text", type := 9, offset := 1, embedded := false, tag := "", pkgPath := "", byteOffset := 8 }, { name := "Names", type := 23, offset := 2, embedded := false, tag := "", pkgPath := "", byteOffset := 24 }, { name := "Values", type := 24, offset := 3, embedded := false, tag := "", pkgPath := "", byteOffset := 48 }]) := Tryd.underlying26
@[go_sem] theorem und27 : Tryd.prog.underlying 27 = some (Go.TypeDesc.slice 40) := Tryd.underlying27
@[go_sem] theorem und28 : Tryd.prog.underlying 28 = some (Go.TypeDesc.array 2 27) := Tryd.underlying28
@[go_sem] theorem und29 : Tryd.prog.underlying 29 = some (Go.TypeDesc.func #[] #[4] false) := Tryd.underlying29
@[go_sem] theorem und30 : Tryd.prog.underlying 30 = some (Go.TypeDesc.func #[26] #[4] false) := Tryd.underlying30
@[go_sem] theorem und31 : Tryd.prog.underlying 31 = some (Go.TypeDesc.int Go.IntKind.i64) := Tryd.underlying31
@[go_sem] theorem und32 : Tryd.prog.underlying 32 = some (Go.TypeDesc.func #[26, 3, 27] #[31] true) := Tryd.underlying32
@[go_sem] theorem und33 : Tryd.prog.underlying 33 = some (Go.TypeDesc.func #[26, 3, 28] #[4] false) := Tryd.underlying33
@[go_sem] theorem und34 : Tryd.prog.underlying 34 = some (Go.TypeDesc.tuple #[9, 31]) := Tryd.underlying34
@[go_sem] theorem und35 : Tryd.prog.underlying 35 = some (Go.TypeDesc.func #[3] #[9, 31] false) := Tryd.underlying35
@[go_sem] theorem und36 : Tryd.prog.underlying 36 = some (Go.TypeDesc.func #[23] #[26] true) := Tryd.underlying36
@[go_sem] theorem und37 : Tryd.prog.underlying 37 = some (Go.TypeDesc.func #[26] #[31] false) := Tryd.underlying37
@[go_sem] theorem und38 : Tryd.prog.underlying 38 = some (Go.TypeDesc.int Go.IntKind.i64) := Tryd.underlying38
@[go_sem] theorem und39 : Tryd.prog.underlying 39 = some (Go.TypeDesc.struct #[{ name := "Ask", type := 38, offset := 0, embedded := false, tag := "", pkgPath := "", byteOffset := 0 }, { name := "Name", type := 9, offset := 1, embedded := false, tag := "", pkgPath := "", byteOffset := 8 }, { name := "Want", type := 9, offset := 2, embedded := false, tag := "", pkgPath := "", byteOffset := 24 }]) := Tryd.underlying39
@[go_sem] theorem und40 : Tryd.prog.underlying 40 = some (Go.TypeDesc.struct #[{ name := "Ask", type := 38, offset := 0, embedded := false, tag := "", pkgPath := "", byteOffset := 0 }, { name := "Name", type := 9, offset := 1, embedded := false, tag := "", pkgPath := "", byteOffset := 8 }, { name := "Want", type := 9, offset := 2, embedded := false, tag := "", pkgPath := "", byteOffset := 24 }]) := Tryd.underlying40
@[go_sem] theorem und41 : Tryd.prog.underlying 41 = some (Go.TypeDesc.func #[3, 3, 9] #[4] false) := Tryd.underlying41
@[go_sem] theorem und42 : Tryd.prog.underlying 42 = some (Go.TypeDesc.struct #[{ name := "Issuer", type := 9, offset := 0, embedded := false, tag := "", pkgPath := "", byteOffset := 0 }, { name := "Audience", type := 9, offset := 1, embedded := false, tag := "", pkgPath := "", byteOffset := 16 }, { name := "From", type := 3, offset := 2, embedded := false, tag := "", pkgPath := "", byteOffset := 32 }, { name := "To", type := 3, offset := 3, embedded := false, tag := "", pkgPath := "", byteOffset := 40 }, { name := "More", type := 23, offset := 4, embedded := false, tag := "", pkgPath := "", byteOffset := 48 }]) := Tryd.underlying42
@[go_sem] theorem und43 : Tryd.prog.underlying 43 = some (Go.TypeDesc.struct #[{ name := "Issuer", type := 9, offset := 0, embedded := false, tag := "", pkgPath := "", byteOffset := 0 }, { name := "Audience", type := 9, offset := 1, embedded := false, tag := "", pkgPath := "", byteOffset := 16 }, { name := "From", type := 3, offset := 2, embedded := false, tag := "", pkgPath := "", byteOffset := 32 }, { name := "To", type := 3, offset := 3, embedded := false, tag := "", pkgPath := "", byteOffset := 40 }, { name := "More", type := 23, offset := 4, embedded := false, tag := "", pkgPath := "", byteOffset := 48 }]) := Tryd.underlying43
@[go_sem] theorem und44 : Tryd.prog.underlying 44 = some (Go.TypeDesc.tuple #[26, 31]) := Tryd.underlying44
@[go_sem] theorem und45 : Tryd.prog.underlying 45 = some (Go.TypeDesc.func #[9, 9, 3, 3, 23] #[26, 31] true) := Tryd.underlying45
@[go_sem] theorem und46 : Tryd.prog.underlying 46 = some (Go.TypeDesc.array 2 3) := Tryd.underlying46
@[go_sem] theorem und47 : Tryd.prog.underlying 47 = some (Go.TypeDesc.func #[] #[3] false) := Tryd.underlying47
@[go_sem] theorem und48 : Tryd.prog.underlying 48 = some (Go.TypeDesc.func #[26, 26] #[4] false) := Tryd.underlying48
@[go_sem] theorem und49 : Tryd.prog.underlying 49 = some (Go.TypeDesc.func #[9, 9] #[27] false) := Tryd.underlying49
@[go_sem] theorem und50 : Tryd.prog.underlying 50 = some (Go.TypeDesc.func #[43, 3] #[4] false) := Tryd.underlying50
@[go_sem] theorem und51 : Tryd.prog.underlying 51 = some (Go.TypeDesc.struct #[{ name := "Value", type := 26, offset := 0, embedded := true, tag := "", pkgPath := "", byteOffset := 0 }, { name := "now", type := 3, offset := 4, embedded := false, tag := "", pkgPath := "escutcheon/claim", byteOffset := 72 }]) := Tryd.underlying51
@[go_sem] theorem und52 : Tryd.prog.underlying 52 = some (Go.TypeDesc.struct #[{ name := "Value", type := 26, offset := 0, embedded := true, tag := "", pkgPath := "", byteOffset := 0 }, { name := "now", type := 3, offset := 4, embedded := false, tag := "", pkgPath := "escutcheon/claim", byteOffset := 72 }]) := Tryd.underlying52
@[go_sem] theorem und53 : Tryd.prog.underlying 53 = some (Go.TypeDesc.func #[40] #[31] false) := Tryd.underlying53
@[go_sem] theorem und54 : Tryd.prog.underlying 54 = some (Go.TypeDesc.func #[3] #[4] false) := Tryd.underlying54
@[go_sem] theorem und55 : Tryd.prog.underlying 55 = some (Go.TypeDesc.struct #[{ name := "year", type := 3, offset := 0, embedded := false, tag := "", pkgPath := "escutcheon/hour", byteOffset := 0 }, { name := "month", type := 3, offset := 1, embedded := false, tag := "", pkgPath := "escutcheon/hour", byteOffset := 8 }, { name := "day", type := 3, offset := 2, embedded := false, tag := "", pkgPath := "escutcheon/hour", byteOffset := 16 }]) := Tryd.underlying55
@[go_sem] theorem und56 : Tryd.prog.underlying 56 = some (Go.TypeDesc.struct #[{ name := "year", type := 3, offset := 0, embedded := false, tag := "", pkgPath := "escutcheon/hour", byteOffset := 0 }, { name := "month", type := 3, offset := 1, embedded := false, tag := "", pkgPath := "escutcheon/hour", byteOffset := 8 }, { name := "day", type := 3, offset := 2, embedded := false, tag := "", pkgPath := "escutcheon/hour", byteOffset := 16 }]) := Tryd.underlying56
@[go_sem] theorem und57 : Tryd.prog.underlying 57 = some (Go.TypeDesc.struct #[{ name := "date", type := 56, offset := 0, embedded := true, tag := "", pkgPath := "escutcheon/hour", byteOffset := 0 }, { name := "hour", type := 3, offset := 3, embedded := false, tag := "", pkgPath := "escutcheon/hour", byteOffset := 24 }, { name := "minute", type := 3, offset := 4, embedded := false, tag := "", pkgPath := "escutcheon/hour", byteOffset := 32 }, { name := "second", type := 3, offset := 5, embedded := false, tag := "", pkgPath := "escutcheon/hour", byteOffset := 40 }]) := Tryd.underlying57
@[go_sem] theorem und58 : Tryd.prog.underlying 58 = some (Go.TypeDesc.struct #[{ name := "date", type := 56, offset := 0, embedded := true, tag := "", pkgPath := "escutcheon/hour", byteOffset := 0 }, { name := "hour", type := 3, offset := 3, embedded := false, tag := "", pkgPath := "escutcheon/hour", byteOffset := 24 }, { name := "minute", type := 3, offset := 4, embedded := false, tag := "", pkgPath := "escutcheon/hour", byteOffset := 32 }, { name := "second", type := 3, offset := 5, embedded := false, tag := "", pkgPath := "escutcheon/hour", byteOffset := 40 }]) := Tryd.underlying58
@[go_sem] theorem und59 : Tryd.prog.underlying 59 = some (Go.TypeDesc.func #[3] #[58] false) := Tryd.underlying59
@[go_sem] theorem und60 : Tryd.prog.underlying 60 = some (Go.TypeDesc.pointer 63) := Tryd.underlying60
@[go_sem] theorem und61 : Tryd.prog.underlying 61 = some (Go.TypeDesc.slice 5) := Tryd.underlying61
@[go_sem] theorem und62 : Tryd.prog.underlying 62 = some (Go.TypeDesc.struct #[{ name := "addr", type := 60, offset := 0, embedded := false, tag := "", pkgPath := "strings", byteOffset := 0 }, { name := "buf", type := 61, offset := 1, embedded := false, tag := "", pkgPath := "strings", byteOffset := 8 }]) := Tryd.underlying62
@[go_sem] theorem und63 : Tryd.prog.underlying 63 = some (Go.TypeDesc.struct #[{ name := "addr", type := 60, offset := 0, embedded := false, tag := "", pkgPath := "strings", byteOffset := 0 }, { name := "buf", type := 61, offset := 1, embedded := false, tag := "", pkgPath := "strings", byteOffset := 8 }]) := Tryd.underlying63
@[go_sem] theorem und64 : Tryd.prog.underlying 64 = some (Go.TypeDesc.interface #[("Error", 70)]) := Tryd.underlying64
@[go_sem] theorem und65 : Tryd.prog.underlying 65 = some (Go.TypeDesc.interface #[("Error", 70)]) := Tryd.underlying65
@[go_sem] theorem und66 : Tryd.prog.underlying 66 = some (Go.TypeDesc.tuple #[3, 65]) := Tryd.underlying66
@[go_sem] theorem und67 : Tryd.prog.underlying 67 = some (Go.TypeDesc.func #[9] #[3, 65] false) := Tryd.underlying67
@[go_sem] theorem und68 : Tryd.prog.underlying 68 = some (Go.TypeDesc.func #[3, 3] #[9] false) := Tryd.underlying68
@[go_sem] theorem und69 : Tryd.prog.underlying 69 = some (Go.TypeDesc.array 5 3) := Tryd.underlying69
@[go_sem] theorem und70 : Tryd.prog.underlying 70 = some (Go.TypeDesc.func #[] #[9] false) := Tryd.underlying70
@[go_sem] theorem und71 : Tryd.prog.underlying 71 = some (Go.TypeDesc.func #[87] #[] false) := Tryd.underlying71
@[go_sem] theorem und72 : Tryd.prog.underlying 72 = some (Go.TypeDesc.func #[87] #[] false) := Tryd.underlying72
@[go_sem] theorem und73 : Tryd.prog.underlying 73 = some (Go.TypeDesc.func #[23, 3] #[72] false) := Tryd.underlying73
@[go_sem] theorem und74 : Tryd.prog.underlying 74 = some (Go.TypeDesc.func #[3] #[31] false) := Tryd.underlying74
@[go_sem] theorem und75 : Tryd.prog.underlying 75 = some (Go.TypeDesc.func #[88] #[23] true) := Tryd.underlying75
@[go_sem] theorem und76 : Tryd.prog.underlying 76 = some (Go.TypeDesc.func #[3, 3, 3, 3, 3, 3] #[3] false) := Tryd.underlying76
@[go_sem] theorem und77 : Tryd.prog.underlying 77 = some (Go.TypeDesc.func #[23, 23] #[4] false) := Tryd.underlying77
@[go_sem] theorem und78 : Tryd.prog.underlying 78 = some (Go.TypeDesc.func #[24, 24, 48] #[4] false) := Tryd.underlying78
@[go_sem] theorem und79 : Tryd.prog.underlying 79 = some (Go.TypeDesc.tuple #[9, 4]) := Tryd.underlying79
@[go_sem] theorem und80 : Tryd.prog.underlying 80 = some (Go.TypeDesc.func #[9] #[9, 4] false) := Tryd.underlying80
@[go_sem] theorem und81 : Tryd.prog.underlying 81 = some (Go.TypeDesc.func #[9, 3] #[31] false) := Tryd.underlying81
@[go_sem] theorem und82 : Tryd.prog.underlying 82 = some (Go.TypeDesc.func #[3] #[3] false) := Tryd.underlying82
@[go_sem] theorem und83 : Tryd.prog.underlying 83 = some (Go.TypeDesc.func #[3, 3] #[3] false) := Tryd.underlying83
@[go_sem] theorem und84 : Tryd.prog.underlying 84 = some (Go.TypeDesc.func #[3] #[9] false) := Tryd.underlying84
@[go_sem] theorem und85 : Tryd.prog.underlying 85 = some (Go.TypeDesc.func #[9, 3] #[9] false) := Tryd.underlying85
@[go_sem] theorem und86 : Tryd.prog.underlying 86 = some (Go.TypeDesc.pointer 5) := Tryd.underlying86
@[go_sem] theorem und87 : Tryd.prog.underlying 87 = some (Go.TypeDesc.func #[23] #[4] false) := Tryd.underlying87
@[go_sem] theorem und88 : Tryd.prog.underlying 88 = some (Go.TypeDesc.slice 23) := Tryd.underlying88
@[go_sem] theorem und89 : Tryd.prog.underlying 89 = some (Go.TypeDesc.func #[23, 3] #[23] false) := Tryd.underlying89
@[go_sem] theorem und90 : Tryd.prog.underlying 90 = some (Go.TypeDesc.tuple #[26, 4]) := Tryd.underlying90
@[go_sem] theorem und91 : Tryd.prog.underlying 91 = some (Go.TypeDesc.func #[9] #[26, 4] false) := Tryd.underlying91
@[go_sem] theorem und92 : Tryd.prog.underlying 92 = some (Go.TypeDesc.tuple #[3, 31]) := Tryd.underlying92
@[go_sem] theorem und93 : Tryd.prog.underlying 93 = some (Go.TypeDesc.func #[9] #[3, 31] false) := Tryd.underlying93
@[go_sem] theorem und94 : Tryd.prog.underlying 94 = some (Go.TypeDesc.array 12 3) := Tryd.underlying94
@[go_sem] theorem und95 : Tryd.prog.underlying 95 = some Go.TypeDesc.unsafePointer := Tryd.underlying95
@[go_sem] theorem und96 : Tryd.prog.underlying 96 = some (Go.TypeDesc.func #[95] #[95] false) := Tryd.underlying96
@[go_sem] theorem und97 : Tryd.prog.underlying 97 = some (Go.TypeDesc.int Go.IntKind.u64) := Tryd.underlying97
@[go_sem] theorem und98 : Tryd.prog.underlying 98 = some (Go.TypeDesc.tuple #[97, 97]) := Tryd.underlying98
@[go_sem] theorem und99 : Tryd.prog.underlying 99 = some (Go.TypeDesc.func #[97, 97] #[97, 97] false) := Tryd.underlying99
@[go_sem] theorem und100 : Tryd.prog.underlying 100 = some (Go.TypeDesc.func #[9, 9] #[4] false) := Tryd.underlying100
@[go_sem] theorem und101 : Tryd.prog.underlying 101 = some (Go.TypeDesc.func #[3] #[] false) := Tryd.underlying101
@[go_sem] theorem und102 : Tryd.prog.underlying 102 = some (Go.TypeDesc.func #[9] #[3] false) := Tryd.underlying102
@[go_sem] theorem und103 : Tryd.prog.underlying 103 = some (Go.TypeDesc.func #[9] #[4] false) := Tryd.underlying103
@[go_sem] theorem und104 : Tryd.prog.underlying 104 = some (Go.TypeDesc.func #[23, 103] #[4] false) := Tryd.underlying104
@[go_sem] theorem und105 : Tryd.prog.underlying 105 = some (Go.TypeDesc.func #[23, 9] #[4] false) := Tryd.underlying105
@[go_sem] theorem und106 : Tryd.prog.underlying 106 = some (Go.TypeDesc.func #[23, 9] #[3] false) := Tryd.underlying106
@[go_sem] theorem und107 : Tryd.prog.underlying 107 = some (Go.TypeDesc.func #[2, 3] #[9] false) := Tryd.underlying107
@[go_sem] theorem und108 : Tryd.prog.underlying 108 = some (Go.TypeDesc.int Go.IntKind.u32) := Tryd.underlying108
@[go_sem] theorem und109 : Tryd.prog.underlying 109 = some (Go.TypeDesc.tuple #[108, 108]) := Tryd.underlying109
@[go_sem] theorem und110 : Tryd.prog.underlying 110 = some (Go.TypeDesc.func #[108, 108] #[108, 108] false) := Tryd.underlying110
@[go_sem] theorem und111 : Tryd.prog.underlying 111 = some (Go.TypeDesc.int Go.IntKind.u64) := Tryd.underlying111
@[go_sem] theorem und112 : Tryd.prog.underlying 112 = some (Go.TypeDesc.tuple #[111, 111]) := Tryd.underlying112
@[go_sem] theorem und113 : Tryd.prog.underlying 113 = some (Go.TypeDesc.func #[111, 111] #[111, 111] false) := Tryd.underlying113
@[go_sem] theorem und114 : Tryd.prog.underlying 114 = some (Go.TypeDesc.func #[9] #[12] false) := Tryd.underlying114
@[go_sem] theorem und115 : Tryd.prog.underlying 115 = some (Go.TypeDesc.array 256 5) := Tryd.underlying115
@[go_sem] theorem und116 : Tryd.prog.underlying 116 = some (Go.TypeDesc.struct #[{ name := "lo", type := 5, offset := 0, embedded := false, tag := "", pkgPath := "unicode/utf8", byteOffset := 0 }, { name := "hi", type := 5, offset := 1, embedded := false, tag := "", pkgPath := "unicode/utf8", byteOffset := 1 }]) := Tryd.underlying116
@[go_sem] theorem und117 : Tryd.prog.underlying 117 = some (Go.TypeDesc.struct #[{ name := "lo", type := 5, offset := 0, embedded := false, tag := "", pkgPath := "unicode/utf8", byteOffset := 0 }, { name := "hi", type := 5, offset := 1, embedded := false, tag := "", pkgPath := "unicode/utf8", byteOffset := 1 }]) := Tryd.underlying117
@[go_sem] theorem und118 : Tryd.prog.underlying 118 = some (Go.TypeDesc.array 16 117) := Tryd.underlying118
@[go_sem] theorem und119 : Tryd.prog.underlying 119 = some (Go.TypeDesc.func #[23, 103] #[3] false) := Tryd.underlying119
@[go_sem] theorem und120 : Tryd.prog.underlying 120 = some (Go.TypeDesc.array 24 5) := Tryd.underlying120
@[go_sem] theorem und121 : Tryd.prog.underlying 121 = some (Go.TypeDesc.func #[111] #[3] false) := Tryd.underlying121
@[go_sem] theorem und122 : Tryd.prog.underlying 122 = some (Go.TypeDesc.func #[61, 111] #[] false) := Tryd.underlying122
@[go_sem] theorem und123 : Tryd.prog.underlying 123 = some (Go.TypeDesc.tuple #[61, 9]) := Tryd.underlying123
@[go_sem] theorem und124 : Tryd.prog.underlying 124 = some (Go.TypeDesc.func #[61, 111, 3, 4, 4] #[61, 9] false) := Tryd.underlying124
@[go_sem] theorem und125 : Tryd.prog.underlying 125 = some (Go.TypeDesc.func #[3] #[61] false) := Tryd.underlying125
@[go_sem] theorem und126 : Tryd.prog.underlying 126 = some (Go.TypeDesc.func #[9, 9, 3, 3, 65] #[65] false) := Tryd.underlying126
@[go_sem] theorem und127 : Tryd.prog.underlying 127 = some (Go.TypeDesc.func #[4] #[3] false) := Tryd.underlying127
@[go_sem] theorem und128 : Tryd.prog.underlying 128 = some (Go.TypeDesc.array 20 111) := Tryd.underlying128
@[go_sem] theorem und129 : Tryd.prog.underlying 129 = some (Go.TypeDesc.array 65 5) := Tryd.underlying129
@[go_sem] theorem und130 : Tryd.prog.underlying 130 = some (Go.TypeDesc.func #[97] #[3] false) := Tryd.underlying130
@[go_sem] theorem und131 : Tryd.prog.underlying 131 = some (Go.TypeDesc.int Go.IntKind.i64) := Tryd.underlying131
@[go_sem] theorem und132 : Tryd.prog.underlying 132 = some (Go.TypeDesc.tuple #[2, 65]) := Tryd.underlying132
@[go_sem] theorem und133 : Tryd.prog.underlying 133 = some (Go.TypeDesc.func #[9, 3, 3] #[2, 65] false) := Tryd.underlying133
@[go_sem] theorem und134 : Tryd.prog.underlying 134 = some (Go.TypeDesc.pointer 142) := Tryd.underlying134
@[go_sem] theorem und135 : Tryd.prog.underlying 135 = some (Go.TypeDesc.func #[9, 9] #[134] false) := Tryd.underlying135
@[go_sem] theorem und136 : Tryd.prog.underlying 136 = some (Go.TypeDesc.func #[9, 9, 3] #[134] false) := Tryd.underlying136
@[go_sem] theorem und137 : Tryd.prog.underlying 137 = some (Go.TypeDesc.func #[108] #[3] false) := Tryd.underlying137
@[go_sem] theorem und138 : Tryd.prog.underlying 138 = some (Go.TypeDesc.tuple #[111, 65]) := Tryd.underlying138
@[go_sem] theorem und139 : Tryd.prog.underlying 139 = some (Go.TypeDesc.func #[9, 3, 3] #[111, 65] false) := Tryd.underlying139
@[go_sem] theorem und140 : Tryd.prog.underlying 140 = some (Go.TypeDesc.func #[9] #[9] false) := Tryd.underlying140
@[go_sem] theorem und141 : Tryd.prog.underlying 141 = some (Go.TypeDesc.struct #[{ name := "Func", type := 9, offset := 0, embedded := false, tag := "", pkgPath := "", byteOffset := 0 }, { name := "Num", type := 9, offset := 1, embedded := false, tag := "", pkgPath := "", byteOffset := 16 }, { name := "Err", type := 65, offset := 2, embedded := false, tag := "", pkgPath := "", byteOffset := 32 }]) := Tryd.underlying141
@[go_sem] theorem und142 : Tryd.prog.underlying 142 = some (Go.TypeDesc.struct #[{ name := "Func", type := 9, offset := 0, embedded := false, tag := "", pkgPath := "", byteOffset := 0 }, { name := "Num", type := 9, offset := 1, embedded := false, tag := "", pkgPath := "", byteOffset := 16 }, { name := "Err", type := 65, offset := 2, embedded := false, tag := "", pkgPath := "", byteOffset := 32 }]) := Tryd.underlying142
@[go_sem] theorem und143 : Tryd.prog.underlying 143 = some (Go.TypeDesc.func #[9] #[65] false) := Tryd.underlying143
@[go_sem] theorem und144 : Tryd.prog.underlying 144 = some (Go.TypeDesc.array 32 5) := Tryd.underlying144
@[go_sem] theorem und145 : Tryd.prog.underlying 145 = some (Go.TypeDesc.array 64 5) := Tryd.underlying145
@[go_sem] theorem und146 : Tryd.prog.underlying 146 = some (Go.TypeDesc.func #[5] #[5] false) := Tryd.underlying146
@[go_sem] theorem und147 : Tryd.prog.underlying 147 = some (Go.TypeDesc.pointer 149) := Tryd.underlying147
@[go_sem] theorem und148 : Tryd.prog.underlying 148 = some (Go.TypeDesc.struct #[{ name := "s", type := 9, offset := 0, embedded := false, tag := "", pkgPath := "errors", byteOffset := 0 }]) := Tryd.underlying148
@[go_sem] theorem und149 : Tryd.prog.underlying 149 = some (Go.TypeDesc.struct #[{ name := "s", type := 9, offset := 0, embedded := false, tag := "", pkgPath := "errors", byteOffset := 0 }]) := Tryd.underlying149
@[go_sem] theorem und150 : Tryd.prog.underlying 150 = some (Go.TypeDesc.struct #[{ name := "_interface", type := 17, offset := 0, embedded := false, tag := "", pkgPath := "runtime", byteOffset := 0 }, { name := "concrete", type := 17, offset := 1, embedded := false, tag := "", pkgPath := "runtime", byteOffset := 8 }, { name := "asserted", type := 17, offset := 2, embedded := false, tag := "", pkgPath := "runtime", byteOffset := 16 }, { name := "missingMethod", type := 9, offset := 3, embedded := false, tag := "", pkgPath := "runtime", byteOffset := 24 }]) := Tryd.underlying150
@[go_sem] theorem und151 : Tryd.prog.underlying 151 = some (Go.TypeDesc.struct #[{ name := "_interface", type := 17, offset := 0, embedded := false, tag := "", pkgPath := "runtime", byteOffset := 0 }, { name := "concrete", type := 17, offset := 1, embedded := false, tag := "", pkgPath := "runtime", byteOffset := 8 }, { name := "asserted", type := 17, offset := 2, embedded := false, tag := "", pkgPath := "runtime", byteOffset := 16 }, { name := "missingMethod", type := 9, offset := 3, embedded := false, tag := "", pkgPath := "runtime", byteOffset := 24 }]) := Tryd.underlying151
@[go_sem] theorem und152 : Tryd.prog.underlying 152 = some (Go.TypeDesc.array 0 16) := Tryd.underlying152
@[go_sem] theorem und153 : Tryd.prog.underlying 153 = some (Go.TypeDesc.struct #[{ name := "_", type := 152, offset := 0, embedded := false, tag := "", pkgPath := "runtime", byteOffset := 0 }]) := Tryd.underlying153
@[go_sem] theorem und154 : Tryd.prog.underlying 154 = some (Go.TypeDesc.struct #[{ name := "_", type := 152, offset := 0, embedded := false, tag := "", pkgPath := "runtime", byteOffset := 0 }]) := Tryd.underlying154
@[go_sem] theorem und155 : Tryd.prog.underlying 155 = some (Go.TypeDesc.int Go.IntKind.u8) := Tryd.underlying155
@[go_sem] theorem und156 : Tryd.prog.underlying 156 = some (Go.TypeDesc.int Go.IntKind.u8) := Tryd.underlying156
@[go_sem] theorem und157 : Tryd.prog.underlying 157 = some (Go.TypeDesc.func #[95, 95] #[4] false) := Tryd.underlying157
@[go_sem] theorem und158 : Tryd.prog.underlying 158 = some (Go.TypeDesc.int Go.IntKind.i32) := Tryd.underlying158
@[go_sem] theorem und159 : Tryd.prog.underlying 159 = some (Go.TypeDesc.int Go.IntKind.i32) := Tryd.underlying159
@[go_sem] theorem und160 : Tryd.prog.underlying 160 = some (Go.TypeDesc.struct #[{ name := "Size_", type := 12, offset := 0, embedded := false, tag := "", pkgPath := "", byteOffset := 0 }, { name := "PtrBytes", type := 12, offset := 1, embedded := false, tag := "", pkgPath := "", byteOffset := 8 }, { name := "Hash", type := 108, offset := 2, embedded := false, tag := "", pkgPath := "", byteOffset := 16 }, { name := "TFlag", type := 155, offset := 3, embedded := false, tag := "", pkgPath := "", byteOffset := 20 }, { name := "Align_", type := 5, offset := 4, embedded := false, tag := "", pkgPath := "", byteOffset := 21 }, { name := "FieldAlign_", type := 5, offset := 5, embedded := false, tag := "", pkgPath := "", byteOffset := 22 }, { name := "Kind_", type := 156, offset := 6, embedded := false, tag := "", pkgPath := "", byteOffset := 23 }, { name := "Equal", type := 157, offset := 7, embedded := false, tag := "", pkgPath := "", byteOffset := 24 }, { name := "GCData", type := 86, offset := 8, embedded := false, tag := "", pkgPath := "", byteOffset := 32 }, { name := "Str", type := 158, offset := 9, embedded := false, tag := "", pkgPath := "", byteOffset := 40 }, { name := "PtrToThis", type := 159, offset := 10, embedded := false, tag := "", pkgPath := "", byteOffset := 44 }]) := Tryd.underlying160
@[go_sem] theorem und161 : Tryd.prog.underlying 161 = some (Go.TypeDesc.struct #[{ name := "Size_", type := 12, offset := 0, embedded := false, tag := "", pkgPath := "", byteOffset := 0 }, { name := "PtrBytes", type := 12, offset := 1, embedded := false, tag := "", pkgPath := "", byteOffset := 8 }, { name := "Hash", type := 108, offset := 2, embedded := false, tag := "", pkgPath := "", byteOffset := 16 }, { name := "TFlag", type := 155, offset := 3, embedded := false, tag := "", pkgPath := "", byteOffset := 20 }, { name := "Align_", type := 5, offset := 4, embedded := false, tag := "", pkgPath := "", byteOffset := 21 }, { name := "FieldAlign_", type := 5, offset := 5, embedded := false, tag := "", pkgPath := "", byteOffset := 22 }, { name := "Kind_", type := 156, offset := 6, embedded := false, tag := "", pkgPath := "", byteOffset := 23 }, { name := "Equal", type := 157, offset := 7, embedded := false, tag := "", pkgPath := "", byteOffset := 24 }, { name := "GCData", type := 86, offset := 8, embedded := false, tag := "", pkgPath := "", byteOffset := 32 }, { name := "Str", type := 158, offset := 9, embedded := false, tag := "", pkgPath := "", byteOffset := 40 }, { name := "PtrToThis", type := 159, offset := 10, embedded := false, tag := "", pkgPath := "", byteOffset := 44 }]) := Tryd.underlying161
end Go.Abs.S
