/- Closed facts on the types of this seat's program. Code, as it is looked at; written by wip/leancode.py. From a law's call, looked at, to what its row asks; arrays as arguments. Ways that meet again fu -/
import Derived.Test.YtdbpaahdonplbaaDoorJP2
import Derived.Test.YtdbpaahdonplbaaDoorProg
import Derived.KernelRfl
import GoSem.PinnedTables
import Derived.OpenShut
import Derived.ProofKit
import Derived.WalkKit
import Derived.Laws.Strings
import Derived.WideShapes
import Derived.Deep.Slices
import Derived.Shelf.Strings.Trim
import Derived.Shelf.Small.Utf8
import Derived.Shelf.Small.Strs
import Derived.Shelf.Small.Wraps
import Derived.Shelf.Strconv.Itoa0
import Derived.Shelf.Strconv.Itoa1
import Derived.Shelf.LaysM
import Derived.Shelf.Strconv.Itoa2
import Derived.Shelf.Strconv.Itoa3
import Derived.Shelf.Strings.Search1
import Derived.Shelf.GgClosure.StringsIndexFunc
import Derived.Ground.GgwProg
import Derived.Shelf.GgClosure.StringsIndexFuncTop
import Derived.Shelf.Strings.Prefix
import Derived.Shelf.Strings.Runes
import Derived.Shelf.Strings.AsciiSet
import Derived.Shelf.Unicode.DecodeSlow
import Derived.Shelf.Unicode.DecodeAny
import Derived.Shelf.Unicode.DecodeLast
import Derived.Shelf.Strings.FuncGrows
import Derived.Shelf.Strings.SlTrimAscii
namespace Go.Abs.S
open Go.Proofs
theorem mixed : Tryd.prog.follows .mixedOrders = true := by kernel_rfl
set_option maxRecDepth 100000
def cells_escutcheon_page_plain : List Value := [.string ⟨#[110, 117, 108, 108]⟩, .string ⟨#[102, 97, 108, 115, 101]⟩, .string ⟨#[116, 114, 117, 101]⟩]
def av_escutcheon_page_plain : AV := .vptr [.v (.string ⟨#[110, 117, 108, 108]⟩), .v (.string ⟨#[102, 97, 108, 115, 101]⟩), .v (.string ⟨#[116, 114, 117, 101]⟩)] 0
def cells_escutcheon_coin_hexa : List Value := [.string ⟨#[48, 49, 50, 51, 52, 53, 54, 55, 56, 57, 97, 98, 99, 100, 101, 102]⟩, .int .i64 4]
def av_escutcheon_coin_hexa : AV := .vptr [.v (.string ⟨#[48, 49, 50, 51, 52, 53, 54, 55, 56, 57, 97, 98, 99, 100, 101, 102]⟩), .v (.int .i64 4)] 0
def lay_unicode_utf8_first : List Int := List.map (fun (n : Nat) => (n : Int)) Go.Pinned.utf8FirstZ
def cells_unicode_utf8_first : List Value := lay_unicode_utf8_first.map (Value.int .u8)
def av_unicode_utf8_first : AV := .vptr (ints .u8 lay_unicode_utf8_first) 0
def lay_unicode_utf8_acceptRanges : List Int := [128, 191, 160, 191, 128, 159, 144, 191, 128, 143, 0, 0, 0, 0, 0, 0, 0, 0, 0, 0, 0, 0, 0, 0, 0, 0, 0, 0, 0, 0, 0, 0]
def cells_unicode_utf8_acceptRanges : List Value := lay_unicode_utf8_acceptRanges.map (Value.int .u8)
def av_unicode_utf8_acceptRanges : AV := .vptr (ints .u8 lay_unicode_utf8_acceptRanges) 0
def lay_internal_strconv_uint64pow10 : List Int := [1, 10, 100, 1000, 10000, 100000, 1000000, 10000000, 100000000, 1000000000, 10000000000, 100000000000, 1000000000000, 10000000000000, 100000000000000, 1000000000000000, 10000000000000000, 100000000000000000, 1000000000000000000, 10000000000000000000]
def cells_internal_strconv_uint64pow10 : List Value := lay_internal_strconv_uint64pow10.map (Value.int .u64)
def av_internal_strconv_uint64pow10 : AV := .vptr (ints .u64 lay_internal_strconv_uint64pow10) 0
def lay_math_bits_deBruijn32tab : List Int := [0, 1, 28, 2, 29, 14, 24, 3, 30, 22, 20, 15, 25, 17, 4, 8, 31, 27, 13, 23, 21, 19, 16, 7, 26, 12, 18, 6, 11, 5, 10, 9]
def cells_math_bits_deBruijn32tab : List Value := lay_math_bits_deBruijn32tab.map (Value.int .u8)
def av_math_bits_deBruijn32tab : AV := .vptr (ints .u8 lay_math_bits_deBruijn32tab) 0
def lay_math_bits_deBruijn64tab : List Int := [0, 1, 56, 2, 57, 49, 28, 3, 61, 58, 42, 50, 38, 29, 17, 4, 62, 47, 59, 36, 45, 43, 51, 22, 53, 39, 33, 30, 24, 18, 12, 5, 63, 55, 48, 27, 60, 41, 37, 16, 46, 35, 44, 21, 52, 32, 23, 11, 54, 26, 40, 15, 34, 20, 31, 10, 25, 14, 19, 9, 13, 8, 7, 6]
def cells_math_bits_deBruijn64tab : List Value := lay_math_bits_deBruijn64tab.map (Value.int .u8)
def av_math_bits_deBruijn64tab : AV := .vptr (ints .u8 lay_math_bits_deBruijn64tab) 0
/-- What is known of package-level variables. -/
def glob : Glob := fun g => if g = 0 then av_escutcheon_page_plain else if g = 1 then av_escutcheon_coin_hexa else if g = 2 then av_unicode_utf8_first else if g = 3 then av_unicode_utf8_acceptRanges else if g = 7 then av_internal_strconv_uint64pow10 else if g = 8 then av_math_bits_deBruijn32tab else if g = 9 then av_math_bits_deBruijn64tab else .any
theorem glob_escutcheon_page_plain : (match av_escutcheon_page_plain with | .vptr xs _ => xs | _ => []) = cells_escutcheon_page_plain.map .v := by
  first | rfl | simp [av_escutcheon_page_plain, cells_escutcheon_page_plain, ints]
@[go_sem] theorem globat0 : glob 0 = .vptr [.v (.string ⟨#[110, 117, 108, 108]⟩), .v (.string ⟨#[102, 97, 108, 115, 101]⟩), .v (.string ⟨#[116, 114, 117, 101]⟩)] 0 := rfl
theorem nr_escutcheon_page_plain : NR av_escutcheon_page_plain := NR.vptr (by
  intro c hc
  have h : c ∈ cells_escutcheon_page_plain.map AV.v := by rw [← glob_escutcheon_page_plain]; exact hc
  obtain ⟨x, _, rfl⟩ := List.mem_map.1 h
  exact NR.v x)
theorem glob_escutcheon_coin_hexa : (match av_escutcheon_coin_hexa with | .vptr xs _ => xs | _ => []) = cells_escutcheon_coin_hexa.map .v := by
  first | rfl | simp [av_escutcheon_coin_hexa, cells_escutcheon_coin_hexa, ints]
@[go_sem] theorem globat1 : glob 1 = .vptr [.v (.string ⟨#[48, 49, 50, 51, 52, 53, 54, 55, 56, 57, 97, 98, 99, 100, 101, 102]⟩), .v (.int .i64 4)] 0 := rfl
theorem nr_escutcheon_coin_hexa : NR av_escutcheon_coin_hexa := NR.vptr (by
  intro c hc
  have h : c ∈ cells_escutcheon_coin_hexa.map AV.v := by rw [← glob_escutcheon_coin_hexa]; exact hc
  obtain ⟨x, _, rfl⟩ := List.mem_map.1 h
  exact NR.v x)
theorem glob_unicode_utf8_first : (match av_unicode_utf8_first with | .vptr xs _ => xs | _ => []) = cells_unicode_utf8_first.map .v := by
  first | rfl | simp [av_unicode_utf8_first, cells_unicode_utf8_first, ints]
@[go_sem] theorem globat2 : glob 2 = .vptr (ints .u8 lay_unicode_utf8_first) 0 := rfl
theorem nr_unicode_utf8_first : NR av_unicode_utf8_first := NR.vptr (by
  intro c hc
  have h : c ∈ cells_unicode_utf8_first.map AV.v := by rw [← glob_unicode_utf8_first]; exact hc
  obtain ⟨x, _, rfl⟩ := List.mem_map.1 h
  exact NR.v x)
theorem glob_unicode_utf8_acceptRanges : (match av_unicode_utf8_acceptRanges with | .vptr xs _ => xs | _ => []) = cells_unicode_utf8_acceptRanges.map .v := by
  first | rfl | simp [av_unicode_utf8_acceptRanges, cells_unicode_utf8_acceptRanges, ints]
@[go_sem] theorem globat3 : glob 3 = .vptr (ints .u8 lay_unicode_utf8_acceptRanges) 0 := rfl
theorem nr_unicode_utf8_acceptRanges : NR av_unicode_utf8_acceptRanges := NR.vptr (by
  intro c hc
  have h : c ∈ cells_unicode_utf8_acceptRanges.map AV.v := by rw [← glob_unicode_utf8_acceptRanges]; exact hc
  obtain ⟨x, _, rfl⟩ := List.mem_map.1 h
  exact NR.v x)
theorem glob_internal_strconv_uint64pow10 : (match av_internal_strconv_uint64pow10 with | .vptr xs _ => xs | _ => []) = cells_internal_strconv_uint64pow10.map .v := by
  first | rfl | simp [av_internal_strconv_uint64pow10, cells_internal_strconv_uint64pow10, ints]
@[go_sem] theorem globat7 : glob 7 = .vptr (ints .u64 lay_internal_strconv_uint64pow10) 0 := rfl
theorem nr_internal_strconv_uint64pow10 : NR av_internal_strconv_uint64pow10 := NR.vptr (by
  intro c hc
  have h : c ∈ cells_internal_strconv_uint64pow10.map AV.v := by rw [← glob_internal_strconv_uint64pow10]; exact hc
  obtain ⟨x, _, rfl⟩ := List.mem_map.1 h
  exact NR.v x)
theorem glob_math_bits_deBruijn32tab : (match av_math_bits_deBruijn32tab with | .vptr xs _ => xs | _ => []) = cells_math_bits_deBruijn32tab.map .v := by
  first | rfl | simp [av_math_bits_deBruijn32tab, cells_math_bits_deBruijn32tab, ints]
@[go_sem] theorem globat8 : glob 8 = .vptr (ints .u8 lay_math_bits_deBruijn32tab) 0 := rfl
theorem nr_math_bits_deBruijn32tab : NR av_math_bits_deBruijn32tab := NR.vptr (by
  intro c hc
  have h : c ∈ cells_math_bits_deBruijn32tab.map AV.v := by rw [← glob_math_bits_deBruijn32tab]; exact hc
  obtain ⟨x, _, rfl⟩ := List.mem_map.1 h
  exact NR.v x)
theorem glob_math_bits_deBruijn64tab : (match av_math_bits_deBruijn64tab with | .vptr xs _ => xs | _ => []) = cells_math_bits_deBruijn64tab.map .v := by
  first | rfl | simp [av_math_bits_deBruijn64tab, cells_math_bits_deBruijn64tab, ints]
@[go_sem] theorem globat9 : glob 9 = .vptr (ints .u8 lay_math_bits_deBruijn64tab) 0 := rfl
theorem nr_math_bits_deBruijn64tab : NR av_math_bits_deBruijn64tab := NR.vptr (by
  intro c hc
  have h : c ∈ cells_math_bits_deBruijn64tab.map AV.v := by rw [← glob_math_bits_deBruijn64tab]; exact hc
  obtain ⟨x, _, rfl⟩ := List.mem_map.1 h
  exact NR.v x)
theorem glob_nr : GN glob := by
  intro g
  unfold glob
  by_cases e0 : g = 0
  · rw [if_pos e0]
    exact nr_escutcheon_page_plain
  rw [if_neg e0]
  by_cases e1 : g = 1
  · rw [if_pos e1]
    exact nr_escutcheon_coin_hexa
  rw [if_neg e1]
  by_cases e2 : g = 2
  · rw [if_pos e2]
    exact nr_unicode_utf8_first
  rw [if_neg e2]
  by_cases e3 : g = 3
  · rw [if_pos e3]
    exact nr_unicode_utf8_acceptRanges
  rw [if_neg e3]
  by_cases e7 : g = 7
  · rw [if_pos e7]
    exact nr_internal_strconv_uint64pow10
  rw [if_neg e7]
  by_cases e8 : g = 8
  · rw [if_pos e8]
    exact nr_math_bits_deBruijn32tab
  rw [if_neg e8]
  by_cases e9 : g = 9
  · rw [if_pos e9]
    exact nr_math_bits_deBruijn64tab
  rw [if_neg e9]
  exact NR.any
theorem ctx : Ctx Tryd.prog glob := ⟨glob_nr, mixed⟩
/-- A call, out of its body as it is looked at. -/
def LC (n nt : Nat) (lc : LCode) (rs : List ResultVar) : Prop := ∀ {args : List AV} (_ : args.length ≤ nt) {H0 : AHeap} (lo : Nat) (_ : H0.length ≤ lo) {r0 : AV} {H0' : AHeap} (_ : lavc Tryd.prog glob lc (args ++ List.replicate (nt - args.length) (.v undef)) H0 fun e t H => (e = .normal ∨ e = .ret) ∧ aret Tryd.prog t H rs fun r => Fin lo H r r0 H0'), ACall Tryd.prog glob (H0.length == 0) n args H0 r0 H0'
theorem LC.of {imp : FuncId → Bool} {n : FuncId} {fn : Func} {lc : LCode} {rs : List ResultVar} {nt : Nat} (hf : Tryd.prog.funcs[n]? = some fn) (hname : (fn.name == "runtime.NumGoroutine") = false) (hl : fn.body.map (strip Tryd.prog imp) = some lc) (hr : fn.results.toList = rs) (hnt : fn.ntmps = nt) : LC n nt lc rs := by
  intro args hargs H0 lo hlo r0 H0' h
  exact LCall' ctx hf hname hl hr hnt hargs lo hlo h
@[go_sem] theorem tsz2 : tsz Tryd.prog 2 = some 1 := by kernel_rfl
@[go_sem] theorem tby2 : tby Tryd.prog 2 = some 8 := by kernel_rfl
@[go_sem] theorem tzero2 : tzero Tryd.prog 2 = some (.int .i64 0) := by kernel_rfl
@[go_sem] theorem tsz3 : tsz Tryd.prog 3 = some 1 := by kernel_rfl
@[go_sem] theorem tby3 : tby Tryd.prog 3 = some 8 := by kernel_rfl
@[go_sem] theorem tzero3 : tzero Tryd.prog 3 = some (.int .i64 0) := by kernel_rfl
@[go_sem] theorem tsz4 : tsz Tryd.prog 4 = some 1 := by kernel_rfl
@[go_sem] theorem tby4 : tby Tryd.prog 4 = some 1 := by kernel_rfl
@[go_sem] theorem tzero4 : tzero Tryd.prog 4 = some (.bool false) := by kernel_rfl
@[go_sem] theorem tsz5 : tsz Tryd.prog 5 = some 1 := by kernel_rfl
@[go_sem] theorem tby5 : tby Tryd.prog 5 = some 1 := by kernel_rfl
@[go_sem] theorem tzero5 : tzero Tryd.prog 5 = some (.int .u8 0) := by kernel_rfl
@[go_sem] theorem tsz6 : tsz Tryd.prog 6 = some 1 := by kernel_rfl
@[go_sem] theorem tby6 : tby Tryd.prog 6 = some 1 := by kernel_rfl
@[go_sem] theorem tzero6 : tzero Tryd.prog 6 = some (.int .u8 0) := by kernel_rfl
@[go_sem] theorem tsz7 : tsz Tryd.prog 7 = some 4 := by kernel_rfl
@[go_sem] theorem tby7 : tby Tryd.prog 7 = some 24 := by kernel_rfl
@[go_sem] theorem tzero7 : tzero Tryd.prog 7 = some (.agg #[(.int .i64 0), (.int .i64 0), (.bool false), (.int .u8 0)]) := by kernel_rfl
@[go_sem] theorem tsz8 : tsz Tryd.prog 8 = some 4 := by kernel_rfl
@[go_sem] theorem tby8 : tby Tryd.prog 8 = some 24 := by kernel_rfl
@[go_sem] theorem tzero8 : tzero Tryd.prog 8 = some (.agg #[(.int .i64 0), (.int .i64 0), (.bool false), (.int .u8 0)]) := by kernel_rfl
@[go_sem] theorem tsz9 : tsz Tryd.prog 9 = some 1 := by kernel_rfl
@[go_sem] theorem tby9 : tby Tryd.prog 9 = some 16 := by kernel_rfl
@[go_sem] theorem tzero9 : tzero Tryd.prog 9 = some (.string ⟨#[]⟩) := by kernel_rfl
@[go_sem] theorem row9 : Row Tryd.prog 9 := .inr (by kernel_rfl)
@[go_sem] theorem tsz10 : tsz Tryd.prog 10 = some 1 := by kernel_rfl
@[go_sem] theorem tby10 : tby Tryd.prog 10 = some 16 := by kernel_rfl
@[go_sem] theorem tzero10 : tzero Tryd.prog 10 = some (.string ⟨#[]⟩) := by kernel_rfl
@[go_sem] theorem row10 : Row Tryd.prog 10 := .inr (by kernel_rfl)
@[go_sem] theorem tsz11 : tsz Tryd.prog 11 = some 1 := by kernel_rfl
@[go_sem] theorem tby11 : tby Tryd.prog 11 = some 16 := by kernel_rfl
@[go_sem] theorem tzero11 : tzero Tryd.prog 11 = some (.string ⟨#[]⟩) := by kernel_rfl
@[go_sem] theorem row11 : Row Tryd.prog 11 := .inr (by kernel_rfl)
@[go_sem] theorem tsz12 : tsz Tryd.prog 12 = some 1 := by kernel_rfl
@[go_sem] theorem tby12 : tby Tryd.prog 12 = some 8 := by kernel_rfl
@[go_sem] theorem tzero12 : tzero Tryd.prog 12 = some (.int .u64 0) := by kernel_rfl
@[go_sem] theorem tsz13 : tsz Tryd.prog 13 = some 2 := by kernel_rfl
@[go_sem] theorem tby13 : tby Tryd.prog 13 = some 24 := by kernel_rfl
@[go_sem] theorem tzero13 : tzero Tryd.prog 13 = some (.agg #[(.string ⟨#[]⟩), (.int .u64 0)]) := by kernel_rfl
@[go_sem] theorem tsz14 : tsz Tryd.prog 14 = some 2 := by kernel_rfl
@[go_sem] theorem tby14 : tby Tryd.prog 14 = some 24 := by kernel_rfl
@[go_sem] theorem tzero14 : tzero Tryd.prog 14 = some (.agg #[(.string ⟨#[]⟩), (.int .u64 0)]) := by kernel_rfl
@[go_sem] theorem tsz15 : tsz Tryd.prog 15 = some 1 := by kernel_rfl
@[go_sem] theorem tby15 : tby Tryd.prog 15 = some 8 := by kernel_rfl
@[go_sem] theorem tzero15 : tzero Tryd.prog 15 = some (.pointer none) := by kernel_rfl
@[go_sem] theorem tsz16 : tsz Tryd.prog 16 = some 1 := by kernel_rfl
@[go_sem] theorem tby16 : tby Tryd.prog 16 = some 8 := by kernel_rfl
@[go_sem] theorem tzero16 : tzero Tryd.prog 16 = some (.pointer none) := by kernel_rfl
@[go_sem] theorem tsz17 : tsz Tryd.prog 17 = some 1 := by kernel_rfl
@[go_sem] theorem tby17 : tby Tryd.prog 17 = some 8 := by kernel_rfl
@[go_sem] theorem tzero17 : tzero Tryd.prog 17 = some (.pointer none) := by kernel_rfl
@[go_sem] theorem tsz18 : tsz Tryd.prog 18 = some 1 := by kernel_rfl
@[go_sem] theorem tby18 : tby Tryd.prog 18 = some 8 := by kernel_rfl
@[go_sem] theorem tzero18 : tzero Tryd.prog 18 = some (.agg #[(.pointer none)]) := by kernel_rfl
@[go_sem] theorem tsz19 : tsz Tryd.prog 19 = some 1 := by kernel_rfl
@[go_sem] theorem tby19 : tby Tryd.prog 19 = some 8 := by kernel_rfl
@[go_sem] theorem tzero19 : tzero Tryd.prog 19 = some (.agg #[(.pointer none)]) := by kernel_rfl
@[go_sem] theorem tsz21 : tsz Tryd.prog 21 = some 1 := by kernel_rfl
@[go_sem] theorem tby21 : tby Tryd.prog 21 = some 4 := by kernel_rfl
@[go_sem] theorem tzero21 : tzero Tryd.prog 21 = some (.int .i32 0) := by kernel_rfl
@[go_sem] theorem tsz22 : tsz Tryd.prog 22 = some 1 := by kernel_rfl
@[go_sem] theorem tby22 : tby Tryd.prog 22 = some 8 := by kernel_rfl
@[go_sem] theorem tzero22 : tzero Tryd.prog 22 = some (.int .i64 0) := by kernel_rfl
@[go_sem] theorem tsz23 : tsz Tryd.prog 23 = some 1 := by kernel_rfl
@[go_sem] theorem tby23 : tby Tryd.prog 23 = some 24 := by kernel_rfl
@[go_sem] theorem tzero23 : tzero Tryd.prog 23 = some (.slice none 0 0) := by kernel_rfl
@[go_sem] theorem row23 : Row Tryd.prog 23 := .inl ⟨9, by kernel_rfl⟩
@[go_sem] theorem tsz24 : tsz Tryd.prog 24 = some 1 := by kernel_rfl
@[go_sem] theorem tby24 : tby Tryd.prog 24 = some 24 := by kernel_rfl
@[go_sem] theorem tzero24 : tzero Tryd.prog 24 = some (.slice none 0 0) := by kernel_rfl
@[go_sem] theorem row24 : Row Tryd.prog 24 := .inl ⟨26, by kernel_rfl⟩
@[go_sem] theorem tsz25 : tsz Tryd.prog 25 = some 4 := by kernel_rfl
@[go_sem] theorem tby25 : tby Tryd.prog 25 = some 72 := by kernel_rfl
@[go_sem] theorem tzero25 : tzero Tryd.prog 25 = some (.agg #[(.int .i64 0), (.string ⟨#[]⟩), (.slice none 0 0), (.slice none 0 0)]) := by kernel_rfl
@[go_sem] theorem tsz26 : tsz Tryd.prog 26 = some 4 := by kernel_rfl
@[go_sem] theorem tby26 : tby Tryd.prog 26 = some 72 := by kernel_rfl
@[go_sem] theorem tzero26 : tzero Tryd.prog 26 = some (.agg #[(.int .i64 0), (.string ⟨#[]⟩), (.slice none 0 0), (.slice none 0 0)]) := by kernel_rfl
@[go_sem] theorem tsz34 : tsz Tryd.prog 34 = some 1 := by kernel_rfl
@[go_sem] theorem tby34 : tby Tryd.prog 34 = some 8 := by kernel_rfl
@[go_sem] theorem tzero34 : tzero Tryd.prog 34 = some (.int .i64 0) := by kernel_rfl
@[go_sem] theorem tsz41 : tsz Tryd.prog 41 = some 1 := by kernel_rfl
@[go_sem] theorem tby41 : tby Tryd.prog 41 = some 24 := by kernel_rfl
@[go_sem] theorem tzero41 : tzero Tryd.prog 41 = some (.slice none 0 0) := by kernel_rfl
@[go_sem] theorem row41 : Row Tryd.prog 41 := .inl ⟨5, by kernel_rfl⟩
@[go_sem] theorem tsz43 : tsz Tryd.prog 43 = some 1 := by kernel_rfl
@[go_sem] theorem tby43 : tby Tryd.prog 43 = some 24 := by kernel_rfl
@[go_sem] theorem tzero43 : tzero Tryd.prog 43 = some (.slice none 0 0) := by kernel_rfl
@[go_sem] theorem row43 : Row Tryd.prog 43 := .inl ⟨45, by kernel_rfl⟩
@[go_sem] theorem tsz44 : tsz Tryd.prog 44 = some 4 := by kernel_rfl
@[go_sem] theorem tby44 : tby Tryd.prog 44 = some 72 := by kernel_rfl
@[go_sem] theorem tzero44 : tzero Tryd.prog 44 = some (.agg #[(.int .i64 0), (.string ⟨#[]⟩), (.slice none 0 0), (.slice none 0 0)]) := by kernel_rfl
@[go_sem] theorem tsz45 : tsz Tryd.prog 45 = some 4 := by kernel_rfl
@[go_sem] theorem tby45 : tby Tryd.prog 45 = some 72 := by kernel_rfl
@[go_sem] theorem tzero45 : tzero Tryd.prog 45 = some (.agg #[(.int .i64 0), (.string ⟨#[]⟩), (.slice none 0 0), (.slice none 0 0)]) := by kernel_rfl
@[go_sem] theorem tsz57 : tsz Tryd.prog 57 = some 1 := by kernel_rfl
@[go_sem] theorem tby57 : tby Tryd.prog 57 = some 8 := by kernel_rfl
@[go_sem] theorem tzero57 : tzero Tryd.prog 57 = some (.pointer none) := by kernel_rfl
@[go_sem] theorem tsz58 : tsz Tryd.prog 58 = some 2 := by kernel_rfl
@[go_sem] theorem tby58 : tby Tryd.prog 58 = some 32 := by kernel_rfl
@[go_sem] theorem tzero58 : tzero Tryd.prog 58 = some (.agg #[(.pointer none), (.slice none 0 0)]) := by kernel_rfl
@[go_sem] theorem tsz59 : tsz Tryd.prog 59 = some 2 := by kernel_rfl
@[go_sem] theorem tby59 : tby Tryd.prog 59 = some 32 := by kernel_rfl
@[go_sem] theorem tzero59 : tzero Tryd.prog 59 = some (.agg #[(.pointer none), (.slice none 0 0)]) := by kernel_rfl
@[go_sem] theorem tsz62 : tsz Tryd.prog 62 = some 1 := by kernel_rfl
@[go_sem] theorem tby62 : tby Tryd.prog 62 = some 8 := by kernel_rfl
@[go_sem] theorem tzero62 : tzero Tryd.prog 62 = some (.pointer none) := by kernel_rfl
@[go_sem] theorem tsz63 : tsz Tryd.prog 63 = some 2 := by kernel_rfl
@[go_sem] theorem tby63 : tby Tryd.prog 63 = some 24 := by kernel_rfl
@[go_sem] theorem tzero63 : tzero Tryd.prog 63 = some (.agg #[(.string ⟨#[]⟩), (.int .i64 0)]) := by kernel_rfl
@[go_sem] theorem tsz64 : tsz Tryd.prog 64 = some 2 := by kernel_rfl
@[go_sem] theorem tby64 : tby Tryd.prog 64 = some 24 := by kernel_rfl
@[go_sem] theorem tzero64 : tzero Tryd.prog 64 = some (.agg #[(.string ⟨#[]⟩), (.int .i64 0)]) := by kernel_rfl
@[go_sem] theorem tsz68 : tsz Tryd.prog 68 = some 3 := by kernel_rfl
@[go_sem] theorem tby68 : tby Tryd.prog 68 = some 48 := by kernel_rfl
@[go_sem] theorem tzero68 : tzero Tryd.prog 68 = some (.agg #[(.string ⟨#[]⟩), (.string ⟨#[]⟩), (.string ⟨#[]⟩)]) := by kernel_rfl
@[go_sem] theorem tsz77 : tsz Tryd.prog 77 = some 1 := by kernel_rfl
@[go_sem] theorem tby77 : tby Tryd.prog 77 = some 8 := by kernel_rfl
@[go_sem] theorem tzero77 : tzero Tryd.prog 77 = some (.pointer none) := by kernel_rfl
@[go_sem] theorem tsz91 : tsz Tryd.prog 91 = some 256 := by kernel_rfl
@[go_sem] theorem tby91 : tby Tryd.prog 91 = some 256 := by kernel_rfl
@[go_sem] theorem tzero91 : tzero Tryd.prog 91 = some (.agg #[(.bool false), (.bool false), (.bool false), (.bool false), (.bool false), (.bool false), (.bool false), (.bool false), (.bool false), (.bool false), (.bool false), (.bool false), (.bool false), (.bool false), (.bool false), (.bool false), (.bool false), (.bool false), (.bool false), (.bool false), (.bool false), (.bool false), (.bool false), (.bool false), (.bool false), (.bool false), (.bool false), (.bool false), (.bool false), (.bool false), (.bool false), (.bool false), (.bool false), (.bool false), (.bool false), (.bool false), (.bool false), (.bool false), (.bool false), (.bool false), (.bool false), (.bool false), (.bool false), (.bool false), (.bool false), (.bool false), (.bool false), (.bool false), (.bool false), (.bool false), (.bool false), (.bool false), (.bool false), (.bool false), (.bool false), (.bool false), (.bool false), (.bool false), (.bool false), (.bool false), (.bool false), (.bool false), (.bool false), (.bool false), (.bool false), (.bool false), (.bool false), (.bool false), (.bool false), (.bool false), (.bool false), (.bool false), (.bool false), (.bool false), (.bool false), (.bool false), (.bool false), (.bool false), (.bool false), (.bool false), (.bool false), (.bool false), (.bool false), (.bool false), (.bool false), (.bool false), (.bool false), (.bool false), (.bool false), (.bool false), (.bool false), (.bool false), (.bool false), (.bool false), (.bool false), (.bool false), (.bool false), (.bool false), (.bool false), (.bool false), (.bool false), (.bool false), (.bool false), (.bool false), (.bool false), (.bool false), (.bool false), (.bool false), (.bool false), (.bool false), (.bool false), (.bool false), (.bool false), (.bool false), (.bool false), (.bool false), (.bool false), (.bool false), (.bool false), (.bool false), (.bool false), (.bool false), (.bool false), (.bool false), (.bool false), (.bool false), (.bool false), (.bool false), (.bool false), (.bool false), (.bool false), (.bool false), (.bool false), (.bool false), (.bool false), (.bool false), (.bool false), (.bool false), (.bool false), (.bool false), (.bool false), (.bool false), (.bool false), (.bool false), (.bool false), (.bool false), (.bool false), (.bool false), (.bool false), (.bool false), (.bool false), (.bool false), (.bool false), (.bool false), (.bool false), (.bool false), (.bool false), (.bool false), (.bool false), (.bool false), (.bool false), (.bool false), (.bool false), (.bool false), (.bool false), (.bool false), (.bool false), (.bool false), (.bool false), (.bool false), (.bool false), (.bool false), (.bool false), (.bool false), (.bool false), (.bool false), (.bool false), (.bool false), (.bool false), (.bool false), (.bool false), (.bool false), (.bool false), (.bool false), (.bool false), (.bool false), (.bool false), (.bool false), (.bool false), (.bool false), (.bool false), (.bool false), (.bool false), (.bool false), (.bool false), (.bool false), (.bool false), (.bool false), (.bool false), (.bool false), (.bool false), (.bool false), (.bool false), (.bool false), (.bool false), (.bool false), (.bool false), (.bool false), (.bool false), (.bool false), (.bool false), (.bool false), (.bool false), (.bool false), (.bool false), (.bool false), (.bool false), (.bool false), (.bool false), (.bool false), (.bool false), (.bool false), (.bool false), (.bool false), (.bool false), (.bool false), (.bool false), (.bool false), (.bool false), (.bool false), (.bool false), (.bool false), (.bool false), (.bool false), (.bool false), (.bool false), (.bool false), (.bool false), (.bool false), (.bool false), (.bool false), (.bool false), (.bool false), (.bool false), (.bool false), (.bool false), (.bool false), (.bool false), (.bool false), (.bool false), (.bool false), (.bool false), (.bool false), (.bool false), (.bool false), (.bool false)]) := by kernel_rfl
@[go_sem] theorem tsz92 : tsz Tryd.prog 92 = some 256 := by kernel_rfl
@[go_sem] theorem tby92 : tby Tryd.prog 92 = some 256 := by kernel_rfl
@[go_sem] theorem tzero92 : tzero Tryd.prog 92 = some (.agg #[(.bool false), (.bool false), (.bool false), (.bool false), (.bool false), (.bool false), (.bool false), (.bool false), (.bool false), (.bool false), (.bool false), (.bool false), (.bool false), (.bool false), (.bool false), (.bool false), (.bool false), (.bool false), (.bool false), (.bool false), (.bool false), (.bool false), (.bool false), (.bool false), (.bool false), (.bool false), (.bool false), (.bool false), (.bool false), (.bool false), (.bool false), (.bool false), (.bool false), (.bool false), (.bool false), (.bool false), (.bool false), (.bool false), (.bool false), (.bool false), (.bool false), (.bool false), (.bool false), (.bool false), (.bool false), (.bool false), (.bool false), (.bool false), (.bool false), (.bool false), (.bool false), (.bool false), (.bool false), (.bool false), (.bool false), (.bool false), (.bool false), (.bool false), (.bool false), (.bool false), (.bool false), (.bool false), (.bool false), (.bool false), (.bool false), (.bool false), (.bool false), (.bool false), (.bool false), (.bool false), (.bool false), (.bool false), (.bool false), (.bool false), (.bool false), (.bool false), (.bool false), (.bool false), (.bool false), (.bool false), (.bool false), (.bool false), (.bool false), (.bool false), (.bool false), (.bool false), (.bool false), (.bool false), (.bool false), (.bool false), (.bool false), (.bool false), (.bool false), (.bool false), (.bool false), (.bool false), (.bool false), (.bool false), (.bool false), (.bool false), (.bool false), (.bool false), (.bool false), (.bool false), (.bool false), (.bool false), (.bool false), (.bool false), (.bool false), (.bool false), (.bool false), (.bool false), (.bool false), (.bool false), (.bool false), (.bool false), (.bool false), (.bool false), (.bool false), (.bool false), (.bool false), (.bool false), (.bool false), (.bool false), (.bool false), (.bool false), (.bool false), (.bool false), (.bool false), (.bool false), (.bool false), (.bool false), (.bool false), (.bool false), (.bool false), (.bool false), (.bool false), (.bool false), (.bool false), (.bool false), (.bool false), (.bool false), (.bool false), (.bool false), (.bool false), (.bool false), (.bool false), (.bool false), (.bool false), (.bool false), (.bool false), (.bool false), (.bool false), (.bool false), (.bool false), (.bool false), (.bool false), (.bool false), (.bool false), (.bool false), (.bool false), (.bool false), (.bool false), (.bool false), (.bool false), (.bool false), (.bool false), (.bool false), (.bool false), (.bool false), (.bool false), (.bool false), (.bool false), (.bool false), (.bool false), (.bool false), (.bool false), (.bool false), (.bool false), (.bool false), (.bool false), (.bool false), (.bool false), (.bool false), (.bool false), (.bool false), (.bool false), (.bool false), (.bool false), (.bool false), (.bool false), (.bool false), (.bool false), (.bool false), (.bool false), (.bool false), (.bool false), (.bool false), (.bool false), (.bool false), (.bool false), (.bool false), (.bool false), (.bool false), (.bool false), (.bool false), (.bool false), (.bool false), (.bool false), (.bool false), (.bool false), (.bool false), (.bool false), (.bool false), (.bool false), (.bool false), (.bool false), (.bool false), (.bool false), (.bool false), (.bool false), (.bool false), (.bool false), (.bool false), (.bool false), (.bool false), (.bool false), (.bool false), (.bool false), (.bool false), (.bool false), (.bool false), (.bool false), (.bool false), (.bool false), (.bool false), (.bool false), (.bool false), (.bool false), (.bool false), (.bool false), (.bool false), (.bool false), (.bool false), (.bool false), (.bool false), (.bool false), (.bool false), (.bool false), (.bool false), (.bool false), (.bool false), (.bool false), (.bool false), (.bool false), (.bool false)]) := by kernel_rfl
@[go_sem] theorem tsz96 : tsz Tryd.prog 96 = some 1 := by kernel_rfl
@[go_sem] theorem tby96 : tby Tryd.prog 96 = some 8 := by kernel_rfl
@[go_sem] theorem tzero96 : tzero Tryd.prog 96 = some (.pointer none) := by kernel_rfl
@[go_sem] theorem tsz101 : tsz Tryd.prog 101 = some 2 := by kernel_rfl
@[go_sem] theorem tby101 : tby Tryd.prog 101 = some 24 := by kernel_rfl
@[go_sem] theorem tzero101 : tzero Tryd.prog 101 = some (.agg #[(.string ⟨#[]⟩), (.int .i64 0)]) := by kernel_rfl
@[go_sem] theorem tsz102 : tsz Tryd.prog 102 = some 2 := by kernel_rfl
@[go_sem] theorem tby102 : tby Tryd.prog 102 = some 24 := by kernel_rfl
@[go_sem] theorem tzero102 : tzero Tryd.prog 102 = some (.agg #[(.string ⟨#[]⟩), (.int .i64 0)]) := by kernel_rfl
@[go_sem] theorem tsz105 : tsz Tryd.prog 105 = some 1 := by kernel_rfl
@[go_sem] theorem tby105 : tby Tryd.prog 105 = some 8 := by kernel_rfl
@[go_sem] theorem tzero105 : tzero Tryd.prog 105 = some (.int .u64 0) := by kernel_rfl
@[go_sem] theorem tsz111 : tsz Tryd.prog 111 = some 256 := by kernel_rfl
@[go_sem] theorem tby111 : tby Tryd.prog 111 = some 256 := by kernel_rfl
@[go_sem] theorem tzero111 : tzero Tryd.prog 111 = some (zArr .u8 256) := by kernel_rfl
@[go_sem] theorem tsz112 : tsz Tryd.prog 112 = some 2 := by kernel_rfl
@[go_sem] theorem tby112 : tby Tryd.prog 112 = some 2 := by kernel_rfl
@[go_sem] theorem tzero112 : tzero Tryd.prog 112 = some (zArr .u8 2) := by kernel_rfl
@[go_sem] theorem tsz113 : tsz Tryd.prog 113 = some 2 := by kernel_rfl
@[go_sem] theorem tby113 : tby Tryd.prog 113 = some 2 := by kernel_rfl
@[go_sem] theorem tzero113 : tzero Tryd.prog 113 = some (zArr .u8 2) := by kernel_rfl
@[go_sem] theorem tsz114 : tsz Tryd.prog 114 = some 32 := by kernel_rfl
@[go_sem] theorem tby114 : tby Tryd.prog 114 = some 32 := by kernel_rfl
@[go_sem] theorem tzero114 : tzero Tryd.prog 114 = some (zArr .u8 32) := by kernel_rfl
@[go_sem] theorem tsz115 : tsz Tryd.prog 115 = some 1 := by kernel_rfl
@[go_sem] theorem tby115 : tby Tryd.prog 115 = some 8 := by kernel_rfl
@[go_sem] theorem tzero115 : tzero Tryd.prog 115 = some (.int .u64 0) := by kernel_rfl
@[go_sem] theorem tsz119 : tsz Tryd.prog 119 = some 1 := by kernel_rfl
@[go_sem] theorem tby119 : tby Tryd.prog 119 = some 8 := by kernel_rfl
@[go_sem] theorem tzero119 : tzero Tryd.prog 119 = some (.int .i64 0) := by kernel_rfl
@[go_sem] theorem tsz121 : tsz Tryd.prog 121 = some 1 := by kernel_rfl
@[go_sem] theorem tby121 : tby Tryd.prog 121 = some 8 := by kernel_rfl
@[go_sem] theorem tzero121 : tzero Tryd.prog 121 = some (.pointer none) := by kernel_rfl
@[go_sem] theorem tsz126 : tsz Tryd.prog 126 = some 3 := by kernel_rfl
@[go_sem] theorem tby126 : tby Tryd.prog 126 = some 48 := by kernel_rfl
@[go_sem] theorem tzero126 : tzero Tryd.prog 126 = some (.agg #[(.string ⟨#[]⟩), (.string ⟨#[]⟩), .nilIface]) := by kernel_rfl
@[go_sem] theorem tsz127 : tsz Tryd.prog 127 = some 3 := by kernel_rfl
@[go_sem] theorem tby127 : tby Tryd.prog 127 = some 48 := by kernel_rfl
@[go_sem] theorem tzero127 : tzero Tryd.prog 127 = some (.agg #[(.string ⟨#[]⟩), (.string ⟨#[]⟩), .nilIface]) := by kernel_rfl
@[go_sem] theorem tsz130 : tsz Tryd.prog 130 = some 1 := by kernel_rfl
@[go_sem] theorem tby130 : tby Tryd.prog 130 = some 8 := by kernel_rfl
@[go_sem] theorem tzero130 : tzero Tryd.prog 130 = some (.pointer none) := by kernel_rfl
@[go_sem] theorem tsz131 : tsz Tryd.prog 131 = some 1 := by kernel_rfl
@[go_sem] theorem tby131 : tby Tryd.prog 131 = some 16 := by kernel_rfl
@[go_sem] theorem tzero131 : tzero Tryd.prog 131 = some (.agg #[(.string ⟨#[]⟩)]) := by kernel_rfl
@[go_sem] theorem tsz132 : tsz Tryd.prog 132 = some 1 := by kernel_rfl
@[go_sem] theorem tby132 : tby Tryd.prog 132 = some 16 := by kernel_rfl
@[go_sem] theorem tzero132 : tzero Tryd.prog 132 = some (.agg #[(.string ⟨#[]⟩)]) := by kernel_rfl
@[go_sem] theorem tsz134 : tsz Tryd.prog 134 = some 24 := by kernel_rfl
@[go_sem] theorem tby134 : tby Tryd.prog 134 = some 24 := by kernel_rfl
@[go_sem] theorem tzero134 : tzero Tryd.prog 134 = some (zArr .u8 24) := by kernel_rfl
@[go_sem] theorem tsz140 : tsz Tryd.prog 140 = some 20 := by kernel_rfl
@[go_sem] theorem tby140 : tby Tryd.prog 140 = some 160 := by kernel_rfl
@[go_sem] theorem tzero140 : tzero Tryd.prog 140 = some (zArr .u64 20) := by kernel_rfl
@[go_sem] theorem tsz141 : tsz Tryd.prog 141 = some 1 := by kernel_rfl
@[go_sem] theorem tby141 : tby Tryd.prog 141 = some 4 := by kernel_rfl
@[go_sem] theorem tzero141 : tzero Tryd.prog 141 = some (.int .u32 0) := by kernel_rfl
@[go_sem] theorem tsz142 : tsz Tryd.prog 142 = some 65 := by kernel_rfl
@[go_sem] theorem tby142 : tby Tryd.prog 142 = some 65 := by kernel_rfl
@[go_sem] theorem tzero142 : tzero Tryd.prog 142 = some (zArr .u8 65) := by kernel_rfl
@[go_sem] theorem tsz146 : tsz Tryd.prog 146 = some 32 := by kernel_rfl
@[go_sem] theorem tby146 : tby Tryd.prog 146 = some 32 := by kernel_rfl
@[go_sem] theorem tzero146 : tzero Tryd.prog 146 = some (zArr .u8 32) := by kernel_rfl
@[go_sem] theorem tsz147 : tsz Tryd.prog 147 = some 64 := by kernel_rfl
@[go_sem] theorem tby147 : tby Tryd.prog 147 = some 64 := by kernel_rfl
@[go_sem] theorem tzero147 : tzero Tryd.prog 147 = some (zArr .u8 64) := by kernel_rfl
@[go_sem] theorem tsz148 : tsz Tryd.prog 148 = some 4 := by kernel_rfl
@[go_sem] theorem tby148 : tby Tryd.prog 148 = some 40 := by kernel_rfl
@[go_sem] theorem tzero148 : tzero Tryd.prog 148 = some (.agg #[(.pointer none), (.pointer none), (.pointer none), (.string ⟨#[]⟩)]) := by kernel_rfl
@[go_sem] theorem tsz149 : tsz Tryd.prog 149 = some 4 := by kernel_rfl
@[go_sem] theorem tby149 : tby Tryd.prog 149 = some 40 := by kernel_rfl
@[go_sem] theorem tzero149 : tzero Tryd.prog 149 = some (.agg #[(.pointer none), (.pointer none), (.pointer none), (.string ⟨#[]⟩)]) := by kernel_rfl
@[go_sem] theorem tsz150 : tsz Tryd.prog 150 = some 0 := by kernel_rfl
@[go_sem] theorem tby150 : tby Tryd.prog 150 = some 0 := by kernel_rfl
@[go_sem] theorem tzero150 : tzero Tryd.prog 150 = some (.agg #[]) := by kernel_rfl
@[go_sem] theorem tsz151 : tsz Tryd.prog 151 = some 0 := by kernel_rfl
@[go_sem] theorem tby151 : tby Tryd.prog 151 = some 0 := by kernel_rfl
@[go_sem] theorem tzero151 : tzero Tryd.prog 151 = some (.agg #[]) := by kernel_rfl
@[go_sem] theorem tsz152 : tsz Tryd.prog 152 = some 0 := by kernel_rfl
@[go_sem] theorem tby152 : tby Tryd.prog 152 = some 0 := by kernel_rfl
@[go_sem] theorem tzero152 : tzero Tryd.prog 152 = some (.agg #[]) := by kernel_rfl
@[go_sem] theorem tsz154 : tsz Tryd.prog 154 = some 1 := by kernel_rfl
@[go_sem] theorem tby154 : tby Tryd.prog 154 = some 1 := by kernel_rfl
@[go_sem] theorem tzero154 : tzero Tryd.prog 154 = some (.int .u8 0) := by kernel_rfl
@[go_sem] theorem tsz155 : tsz Tryd.prog 155 = some 1 := by kernel_rfl
@[go_sem] theorem tby155 : tby Tryd.prog 155 = some 1 := by kernel_rfl
@[go_sem] theorem tzero155 : tzero Tryd.prog 155 = some (.int .u8 0) := by kernel_rfl
@[go_sem] theorem tsz157 : tsz Tryd.prog 157 = some 1 := by kernel_rfl
@[go_sem] theorem tby157 : tby Tryd.prog 157 = some 4 := by kernel_rfl
@[go_sem] theorem tzero157 : tzero Tryd.prog 157 = some (.int .i32 0) := by kernel_rfl
@[go_sem] theorem tsz158 : tsz Tryd.prog 158 = some 1 := by kernel_rfl
@[go_sem] theorem tby158 : tby Tryd.prog 158 = some 4 := by kernel_rfl
@[go_sem] theorem tzero158 : tzero Tryd.prog 158 = some (.int .i32 0) := by kernel_rfl
@[go_sem] theorem tsz159 : tsz Tryd.prog 159 = some 11 := by kernel_rfl
@[go_sem] theorem tby159 : tby Tryd.prog 159 = some 48 := by kernel_rfl
@[go_sem] theorem tzero159 : tzero Tryd.prog 159 = some (.agg #[(.int .u64 0), (.int .u64 0), (.int .u32 0), (.int .u8 0), (.int .u8 0), (.int .u8 0), (.int .u8 0), .nilFunc, (.pointer none), (.int .i32 0), (.int .i32 0)]) := by kernel_rfl
@[go_sem] theorem tsz160 : tsz Tryd.prog 160 = some 11 := by kernel_rfl
@[go_sem] theorem tby160 : tby Tryd.prog 160 = some 48 := by kernel_rfl
@[go_sem] theorem tzero160 : tzero Tryd.prog 160 = some (.agg #[(.int .u64 0), (.int .u64 0), (.int .u32 0), (.int .u8 0), (.int .u8 0), (.int .u8 0), (.int .u8 0), .nilFunc, (.pointer none), (.int .i32 0), (.int .i32 0)]) := by kernel_rfl
@[go_sem] theorem und0 : Tryd.prog.underlying 0 = some (Go.TypeDesc.tuple #[]) := Tryd.underlying0
@[go_sem] theorem und1 : Tryd.prog.underlying 1 = some (Go.TypeDesc.func #[] #[] false) := Tryd.underlying1
@[go_sem] theorem und2 : Tryd.prog.underlying 2 = some (Go.TypeDesc.int Go.IntKind.i64) := Tryd.underlying2
@[go_sem] theorem und3 : Tryd.prog.underlying 3 = some (Go.TypeDesc.int Go.IntKind.i64) := Tryd.underlying3
@[go_sem] theorem und4 : Tryd.prog.underlying 4 = some Go.TypeDesc.bool := Tryd.underlying4
@[go_sem] theorem und5 : Tryd.prog.underlying 5 = some (Go.TypeDesc.int Go.IntKind.u8) := Tryd.underlying5
@[go_sem] theorem und6 : Tryd.prog.underlying 6 = some (Go.TypeDesc.int Go.IntKind.u8) := Tryd.underlying6
@[go_sem] theorem und7 : Tryd.prog.underlying 7 = some (Go.TypeDesc.struct #[{ name := "x", type := 2, offset := 0, embedded := false, tag := "", pkgPath := "runtime", byteOffset := 0 }, { name := "y", type := 3, offset := 1, embedded := false, tag := "", pkgPath := "runtime", byteOffset := 8 }, { name := "signed", type := 4, offset := 2, embedded := false, tag := "", pkgPath := "runtime", byteOffset := 16 }, { name := "code", type := 6, offset := 3, embedded := false, tag := "", pkgPath := "runtime", byteOffset := 17 }]) := Tryd.underlying7
@[go_sem] theorem und8 : Tryd.prog.underlying 8 = some (Go.TypeDesc.struct #[{ name := "x", type := 2, offset := 0, embedded := false, tag := "", pkgPath := "runtime", byteOffset := 0 }, { name := "y", type := 3, offset := 1, embedded := false, tag := "", pkgPath := "runtime", byteOffset := 8 }, { name := "signed", type := 4, offset := 2, embedded := false, tag := "", pkgPath := "runtime", byteOffset := 16 }, { name := "code", type := 6, offset := 3, embedded := false, tag := "", pkgPath := "runtime", byteOffset := 17 }]) := Tryd.underlying8
@[go_sem] theorem und9 : Tryd.prog.underlying 9 = some Go.TypeDesc.string := Tryd.underlying9
@[go_sem] theorem und10 : Tryd.prog.underlying 10 = some Go.TypeDesc.string := Tryd.underlying10
@[go_sem] theorem und11 : Tryd.prog.underlying 11 = some Go.TypeDesc.string := Tryd.underlying11
@[go_sem] theorem und12 : Tryd.prog.underlying 12 = some (Go.TypeDesc.int Go.IntKind.u64) := Tryd.underlying12
@[go_sem] theorem und13 : Tryd.prog.underlying 13 = some (Go.TypeDesc.struct #[{ name := "msg", type := 9, offset := 0, embedded := false, tag := "", pkgPath := "runtime", byteOffset := 0 }, { name := "addr", type := 12, offset := 1, embedded := false, tag := "", pkgPath := "runtime", byteOffset := 16 }]) := Tryd.underlying13
@[go_sem] theorem und14 : Tryd.prog.underlying 14 = some (Go.TypeDesc.struct #[{ name := "msg", type := 9, offset := 0, embedded := false, tag := "", pkgPath := "runtime", byteOffset := 0 }, { name := "addr", type := 12, offset := 1, embedded := false, tag := "", pkgPath := "runtime", byteOffset := 16 }]) := Tryd.underlying14
@[go_sem] theorem und15 : Tryd.prog.underlying 15 = some (Go.TypeDesc.pointer 149) := Tryd.underlying15
@[go_sem] theorem und16 : Tryd.prog.underlying 16 = some (Go.TypeDesc.pointer 152) := Tryd.underlying16
@[go_sem] theorem und17 : Tryd.prog.underlying 17 = some (Go.TypeDesc.pointer 160) := Tryd.underlying17
@[go_sem] theorem und18 : Tryd.prog.underlying 18 = some (Go.TypeDesc.struct #[{ name := "typ", type := 17, offset := 0, embedded := false, tag := "", pkgPath := "internal/runtime/maps", byteOffset := 0 }]) := Tryd.underlying18
@[go_sem] theorem und19 : Tryd.prog.underlying 19 = some (Go.TypeDesc.struct #[{ name := "typ", type := 17, offset := 0, embedded := false, tag := "", pkgPath := "internal/runtime/maps", byteOffset := 0 }]) := Tryd.underlying19
@[go_sem] theorem und20 : Tryd.prog.underlying 20 = some (Go.TypeDesc.interface #[]) := Tryd.underlying20
@[go_sem] theorem und21 : Tryd.prog.underlying 21 = some (Go.TypeDesc.int Go.IntKind.i32) := Tryd.underlying21
@[go_sem] theorem und22 : Tryd.prog.underlying 22 = some (Go.TypeDesc.int Go.IntKind.i64) := Tryd.underlying22
@[go_sem] theorem und23 : Tryd.prog.underlying 23 = some (Go.TypeDesc.slice 9) := Tryd.underlying23
@[go_sem] theorem und24 : Tryd.prog.underlying 24 = some (Go.TypeDesc.slice 26) := Tryd.underlying24
@[go_sem] theorem und25 : Tryd.prog.underlying 25 = some (Go.TypeDesc.struct #[{ name := "Kind", type := 22, offset := 0, embedded := false, tag := "", pkgPath := "", byteOffset := 0 }, { name := "Text", type := 9, offset := 1, embedded := false, tag := "", pkgPath := "", byteOffset := 8 }, { name := "Names", type := 23, offset := 2, embedded := false, tag := "", pkgPath := "", byteOffset := 24 }, { name := "Values", type := 24, offset := 3, embedded := false, tag := "", pkgPath := "", byteOffset := 48 }]) := Tryd.underlying25
@[go_sem] theorem und26 : Tryd.prog.underlying 26 = some (Go.TypeDesc.struct #[{ name := "Kind", type := 22, offset := 0, embedded := false, tag := "", pkgPath := "", byteOffset := 0 }, { name := "Text", type := 9, offset := 1, embedded := false, tag := "", pkgPath := "", byteOffset := 8 }, { name := "Names", type := 23, offset := 2, embedded := false, tag := "", pkgPath := "", byteOffset := 24 }, { name := "Values", type := 24, offset := 3, embedded := false, tag := "", pkgPath := "", byteOffset := 48 }]) := Tryd.underlying26
@[go_sem] theorem und27 : Tryd.prog.underlying 27 = some (Go.TypeDesc.func #[] #[4] false) := Tryd.underlying27
@[go_sem] theorem und28 : Tryd.prog.underlying 28 = some (Go.TypeDesc.func #[26, 3] #[4] false) := Tryd.underlying28
@[go_sem] theorem und29 : Tryd.prog.underlying 29 = some (Go.TypeDesc.tuple #[26, 4]) := Tryd.underlying29
@[go_sem] theorem und30 : Tryd.prog.underlying 30 = some (Go.TypeDesc.func #[9] #[26, 4] false) := Tryd.underlying30
@[go_sem] theorem und31 : Tryd.prog.underlying 31 = some (Go.TypeDesc.func #[26, 26] #[4] false) := Tryd.underlying31
@[go_sem] theorem und32 : Tryd.prog.underlying 32 = some (Go.TypeDesc.func #[23] #[26] true) := Tryd.underlying32
@[go_sem] theorem und33 : Tryd.prog.underlying 33 = some (Go.TypeDesc.func #[26, 9, 23] #[4] false) := Tryd.underlying33
@[go_sem] theorem und34 : Tryd.prog.underlying 34 = some (Go.TypeDesc.int Go.IntKind.i64) := Tryd.underlying34
@[go_sem] theorem und35 : Tryd.prog.underlying 35 = some (Go.TypeDesc.tuple #[9, 34]) := Tryd.underlying35
@[go_sem] theorem und36 : Tryd.prog.underlying 36 = some (Go.TypeDesc.func #[26] #[9, 34] false) := Tryd.underlying36
@[go_sem] theorem und37 : Tryd.prog.underlying 37 = some (Go.TypeDesc.func #[9] #[4] false) := Tryd.underlying37
@[go_sem] theorem und38 : Tryd.prog.underlying 38 = some (Go.TypeDesc.tuple #[26, 34]) := Tryd.underlying38
@[go_sem] theorem und39 : Tryd.prog.underlying 39 = some (Go.TypeDesc.func #[9] #[26, 34] false) := Tryd.underlying39
@[go_sem] theorem und40 : Tryd.prog.underlying 40 = some (Go.TypeDesc.func #[9] #[9] false) := Tryd.underlying40
@[go_sem] theorem und41 : Tryd.prog.underlying 41 = some (Go.TypeDesc.slice 5) := Tryd.underlying41
@[go_sem] theorem und42 : Tryd.prog.underlying 42 = some (Go.TypeDesc.func #[45] #[9] false) := Tryd.underlying42
@[go_sem] theorem und43 : Tryd.prog.underlying 43 = some (Go.TypeDesc.slice 45) := Tryd.underlying43
@[go_sem] theorem und44 : Tryd.prog.underlying 44 = some (Go.TypeDesc.struct #[{ name := "Kind", type := 3, offset := 0, embedded := false, tag := "", pkgPath := "", byteOffset := 0 }, { name := "Text", type := 9, offset := 1, embedded := false, tag := "", pkgPath := "", byteOffset := 8 }, { name := "Names", type := 23, offset := 2, embedded := false, tag := "", pkgPath := "", byteOffset := 24 }, { name := "Values", type := 43, offset := 3, embedded := false, tag := "", pkgPath := "", byteOffset := 48 }]) := Tryd.underlying44
@[go_sem] theorem und45 : Tryd.prog.underlying 45 = some (Go.TypeDesc.struct #[{ name := "Kind", type := 3, offset := 0, embedded := false, tag := "", pkgPath := "", byteOffset := 0 }, { name := "Text", type := 9, offset := 1, embedded := false, tag := "", pkgPath := "", byteOffset := 8 }, { name := "Names", type := 23, offset := 2, embedded := false, tag := "", pkgPath := "", byteOffset := 24 }, { name := "Values", type := 43, offset := 3, embedded := false, tag := "", pkgPath := "", byteOffset := 48 }]) := Tryd.underlying45
@[go_sem] theorem und46 : Tryd.prog.underlying 46 = some (Go.TypeDesc.func #[26] #[45] false) := Tryd.underlying46
@[go_sem] theorem und47 : Tryd.prog.underlying 47 = some (Go.TypeDesc.func #[26] #[34] false) := Tryd.underlying47
@[go_sem] theorem und48 : Tryd.prog.underlying 48 = some (Go.TypeDesc.func #[5, 4] #[4] false) := Tryd.underlying48
@[go_sem] theorem und49 : Tryd.prog.underlying 49 = some (Go.TypeDesc.func #[45, 45] #[4] false) := Tryd.underlying49
@[go_sem] theorem und50 : Tryd.prog.underlying 50 = some (Go.TypeDesc.func #[9, 3] #[3] false) := Tryd.underlying50
@[go_sem] theorem und51 : Tryd.prog.underlying 51 = some (Go.TypeDesc.func #[23, 9] #[3] false) := Tryd.underlying51
@[go_sem] theorem und52 : Tryd.prog.underlying 52 = some (Go.TypeDesc.func #[23, 23] #[4] false) := Tryd.underlying52
@[go_sem] theorem und53 : Tryd.prog.underlying 53 = some (Go.TypeDesc.func #[24, 24, 31] #[4] false) := Tryd.underlying53
@[go_sem] theorem und54 : Tryd.prog.underlying 54 = some (Go.TypeDesc.func #[71] #[] false) := Tryd.underlying54
@[go_sem] theorem und55 : Tryd.prog.underlying 55 = some (Go.TypeDesc.func #[71] #[] false) := Tryd.underlying55
@[go_sem] theorem und56 : Tryd.prog.underlying 56 = some (Go.TypeDesc.func #[23, 3] #[55] false) := Tryd.underlying56
@[go_sem] theorem und57 : Tryd.prog.underlying 57 = some (Go.TypeDesc.pointer 59) := Tryd.underlying57
@[go_sem] theorem und58 : Tryd.prog.underlying 58 = some (Go.TypeDesc.struct #[{ name := "addr", type := 57, offset := 0, embedded := false, tag := "", pkgPath := "strings", byteOffset := 0 }, { name := "buf", type := 41, offset := 1, embedded := false, tag := "", pkgPath := "strings", byteOffset := 8 }]) := Tryd.underlying58
@[go_sem] theorem und59 : Tryd.prog.underlying 59 = some (Go.TypeDesc.struct #[{ name := "addr", type := 57, offset := 0, embedded := false, tag := "", pkgPath := "strings", byteOffset := 0 }, { name := "buf", type := 41, offset := 1, embedded := false, tag := "", pkgPath := "strings", byteOffset := 8 }]) := Tryd.underlying59
@[go_sem] theorem und60 : Tryd.prog.underlying 60 = some (Go.TypeDesc.func #[57] #[] false) := Tryd.underlying60
@[go_sem] theorem und61 : Tryd.prog.underlying 61 = some (Go.TypeDesc.func #[] #[9] false) := Tryd.underlying61
@[go_sem] theorem und62 : Tryd.prog.underlying 62 = some (Go.TypeDesc.pointer 64) := Tryd.underlying62
@[go_sem] theorem und63 : Tryd.prog.underlying 63 = some (Go.TypeDesc.struct #[{ name := "left", type := 9, offset := 0, embedded := false, tag := "", pkgPath := "escutcheon/page", byteOffset := 0 }, { name := "fail", type := 34, offset := 1, embedded := false, tag := "", pkgPath := "escutcheon/page", byteOffset := 16 }]) := Tryd.underlying63
@[go_sem] theorem und64 : Tryd.prog.underlying 64 = some (Go.TypeDesc.struct #[{ name := "left", type := 9, offset := 0, embedded := false, tag := "", pkgPath := "escutcheon/page", byteOffset := 0 }, { name := "fail", type := 34, offset := 1, embedded := false, tag := "", pkgPath := "escutcheon/page", byteOffset := 16 }]) := Tryd.underlying64
@[go_sem] theorem und65 : Tryd.prog.underlying 65 = some (Go.TypeDesc.func #[3] #[26] false) := Tryd.underlying65
@[go_sem] theorem und66 : Tryd.prog.underlying 66 = some (Go.TypeDesc.func #[34] #[] false) := Tryd.underlying66
@[go_sem] theorem und67 : Tryd.prog.underlying 67 = some (Go.TypeDesc.func #[41] #[9] false) := Tryd.underlying67
@[go_sem] theorem und68 : Tryd.prog.underlying 68 = some (Go.TypeDesc.array 3 9) := Tryd.underlying68
@[go_sem] theorem und69 : Tryd.prog.underlying 69 = some (Go.TypeDesc.func #[3] #[34] false) := Tryd.underlying69
@[go_sem] theorem und70 : Tryd.prog.underlying 70 = some (Go.TypeDesc.func #[9, 3, 9] #[4] false) := Tryd.underlying70
@[go_sem] theorem und71 : Tryd.prog.underlying 71 = some (Go.TypeDesc.func #[23] #[4] false) := Tryd.underlying71
@[go_sem] theorem und72 : Tryd.prog.underlying 72 = some (Go.TypeDesc.interface #[("Error", 61)]) := Tryd.underlying72
@[go_sem] theorem und73 : Tryd.prog.underlying 73 = some (Go.TypeDesc.interface #[("Error", 61)]) := Tryd.underlying73
@[go_sem] theorem und74 : Tryd.prog.underlying 74 = some (Go.TypeDesc.tuple #[3, 73]) := Tryd.underlying74
@[go_sem] theorem und75 : Tryd.prog.underlying 75 = some (Go.TypeDesc.func #[9] #[3, 73] false) := Tryd.underlying75
@[go_sem] theorem und76 : Tryd.prog.underlying 76 = some (Go.TypeDesc.func #[5] #[73] false) := Tryd.underlying76
@[go_sem] theorem und77 : Tryd.prog.underlying 77 = some (Go.TypeDesc.pointer 5) := Tryd.underlying77
@[go_sem] theorem und78 : Tryd.prog.underlying 78 = some (Go.TypeDesc.func #[26, 9, 3] #[26] false) := Tryd.underlying78
@[go_sem] theorem und79 : Tryd.prog.underlying 79 = some (Go.TypeDesc.func #[9] #[3] false) := Tryd.underlying79
@[go_sem] theorem und80 : Tryd.prog.underlying 80 = some (Go.TypeDesc.func #[9, 9] #[9] false) := Tryd.underlying80
@[go_sem] theorem und81 : Tryd.prog.underlying 81 = some (Go.TypeDesc.func #[3] #[5] false) := Tryd.underlying81
@[go_sem] theorem und82 : Tryd.prog.underlying 82 = some (Go.TypeDesc.tuple #[9, 4]) := Tryd.underlying82
@[go_sem] theorem und83 : Tryd.prog.underlying 83 = some (Go.TypeDesc.func #[9, 9] #[9, 4] false) := Tryd.underlying83
@[go_sem] theorem und84 : Tryd.prog.underlying 84 = some (Go.TypeDesc.func #[9, 85] #[3] false) := Tryd.underlying84
@[go_sem] theorem und85 : Tryd.prog.underlying 85 = some (Go.TypeDesc.func #[21] #[4] false) := Tryd.underlying85
@[go_sem] theorem und86 : Tryd.prog.underlying 86 = some (Go.TypeDesc.tuple #[21, 3]) := Tryd.underlying86
@[go_sem] theorem und87 : Tryd.prog.underlying 87 = some (Go.TypeDesc.func #[9] #[21, 3] false) := Tryd.underlying87
@[go_sem] theorem und88 : Tryd.prog.underlying 88 = some (Go.TypeDesc.func #[23] #[9] false) := Tryd.underlying88
@[go_sem] theorem und89 : Tryd.prog.underlying 89 = some (Go.TypeDesc.func #[9, 9] #[4] false) := Tryd.underlying89
@[go_sem] theorem und90 : Tryd.prog.underlying 90 = some (Go.TypeDesc.func #[9, 5] #[9] false) := Tryd.underlying90
@[go_sem] theorem und91 : Tryd.prog.underlying 91 = some (Go.TypeDesc.array 256 4) := Tryd.underlying91
@[go_sem] theorem und92 : Tryd.prog.underlying 92 = some (Go.TypeDesc.array 256 4) := Tryd.underlying92
@[go_sem] theorem und93 : Tryd.prog.underlying 93 = some (Go.TypeDesc.tuple #[92, 4]) := Tryd.underlying93
@[go_sem] theorem und94 : Tryd.prog.underlying 94 = some (Go.TypeDesc.func #[9] #[92, 4] false) := Tryd.underlying94
@[go_sem] theorem und95 : Tryd.prog.underlying 95 = some (Go.TypeDesc.func #[9, 96] #[9] false) := Tryd.underlying95
@[go_sem] theorem und96 : Tryd.prog.underlying 96 = some (Go.TypeDesc.pointer 92) := Tryd.underlying96
@[go_sem] theorem und97 : Tryd.prog.underlying 97 = some (Go.TypeDesc.func #[23, 37] #[4] false) := Tryd.underlying97
@[go_sem] theorem und98 : Tryd.prog.underlying 98 = some (Go.TypeDesc.func #[23, 9] #[4] false) := Tryd.underlying98
@[go_sem] theorem und99 : Tryd.prog.underlying 99 = some Go.TypeDesc.unsafePointer := Tryd.underlying99
@[go_sem] theorem und100 : Tryd.prog.underlying 100 = some (Go.TypeDesc.func #[99] #[99] false) := Tryd.underlying100
@[go_sem] theorem und101 : Tryd.prog.underlying 101 = some (Go.TypeDesc.struct #[{ name := "signs", type := 9, offset := 0, embedded := false, tag := "", pkgPath := "escutcheon/coin", byteOffset := 0 }, { name := "bits", type := 3, offset := 1, embedded := false, tag := "", pkgPath := "escutcheon/coin", byteOffset := 16 }]) := Tryd.underlying101
@[go_sem] theorem und102 : Tryd.prog.underlying 102 = some (Go.TypeDesc.struct #[{ name := "signs", type := 9, offset := 0, embedded := false, tag := "", pkgPath := "escutcheon/coin", byteOffset := 0 }, { name := "bits", type := 3, offset := 1, embedded := false, tag := "", pkgPath := "escutcheon/coin", byteOffset := 16 }]) := Tryd.underlying102
@[go_sem] theorem und103 : Tryd.prog.underlying 103 = some (Go.TypeDesc.func #[9, 85, 4] #[3] false) := Tryd.underlying103
@[go_sem] theorem und104 : Tryd.prog.underlying 104 = some (Go.TypeDesc.func #[9, 5] #[3] false) := Tryd.underlying104
@[go_sem] theorem und105 : Tryd.prog.underlying 105 = some (Go.TypeDesc.int Go.IntKind.u64) := Tryd.underlying105
@[go_sem] theorem und106 : Tryd.prog.underlying 106 = some (Go.TypeDesc.tuple #[105, 73]) := Tryd.underlying106
@[go_sem] theorem und107 : Tryd.prog.underlying 107 = some (Go.TypeDesc.func #[9, 3, 3] #[105, 73] false) := Tryd.underlying107
@[go_sem] theorem und108 : Tryd.prog.underlying 108 = some (Go.TypeDesc.func #[5] #[4] false) := Tryd.underlying108
@[go_sem] theorem und109 : Tryd.prog.underlying 109 = some (Go.TypeDesc.func #[9, 21] #[4] false) := Tryd.underlying109
@[go_sem] theorem und110 : Tryd.prog.underlying 110 = some (Go.TypeDesc.func #[9] #[12] false) := Tryd.underlying110
@[go_sem] theorem und111 : Tryd.prog.underlying 111 = some (Go.TypeDesc.array 256 5) := Tryd.underlying111
@[go_sem] theorem und112 : Tryd.prog.underlying 112 = some (Go.TypeDesc.struct #[{ name := "lo", type := 5, offset := 0, embedded := false, tag := "", pkgPath := "unicode/utf8", byteOffset := 0 }, { name := "hi", type := 5, offset := 1, embedded := false, tag := "", pkgPath := "unicode/utf8", byteOffset := 1 }]) := Tryd.underlying112
@[go_sem] theorem und113 : Tryd.prog.underlying 113 = some (Go.TypeDesc.struct #[{ name := "lo", type := 5, offset := 0, embedded := false, tag := "", pkgPath := "unicode/utf8", byteOffset := 0 }, { name := "hi", type := 5, offset := 1, embedded := false, tag := "", pkgPath := "unicode/utf8", byteOffset := 1 }]) := Tryd.underlying113
@[go_sem] theorem und114 : Tryd.prog.underlying 114 = some (Go.TypeDesc.array 16 113) := Tryd.underlying114
@[go_sem] theorem und115 : Tryd.prog.underlying 115 = some (Go.TypeDesc.int Go.IntKind.u64) := Tryd.underlying115
@[go_sem] theorem und116 : Tryd.prog.underlying 116 = some (Go.TypeDesc.func #[23, 37] #[3] false) := Tryd.underlying116
@[go_sem] theorem und117 : Tryd.prog.underlying 117 = some (Go.TypeDesc.func #[9, 9, 3, 3, 73] #[73] false) := Tryd.underlying117
@[go_sem] theorem und118 : Tryd.prog.underlying 118 = some (Go.TypeDesc.func #[9, 21] #[3] false) := Tryd.underlying118
@[go_sem] theorem und119 : Tryd.prog.underlying 119 = some (Go.TypeDesc.int Go.IntKind.i64) := Tryd.underlying119
@[go_sem] theorem und120 : Tryd.prog.underlying 120 = some (Go.TypeDesc.func #[5] #[5] false) := Tryd.underlying120
@[go_sem] theorem und121 : Tryd.prog.underlying 121 = some (Go.TypeDesc.pointer 127) := Tryd.underlying121
@[go_sem] theorem und122 : Tryd.prog.underlying 122 = some (Go.TypeDesc.func #[9, 9] #[121] false) := Tryd.underlying122
@[go_sem] theorem und123 : Tryd.prog.underlying 123 = some (Go.TypeDesc.func #[9, 9, 3] #[121] false) := Tryd.underlying123
@[go_sem] theorem und124 : Tryd.prog.underlying 124 = some (Go.TypeDesc.func #[3] #[3] false) := Tryd.underlying124
@[go_sem] theorem und125 : Tryd.prog.underlying 125 = some (Go.TypeDesc.func #[9, 9] #[3] false) := Tryd.underlying125
@[go_sem] theorem und126 : Tryd.prog.underlying 126 = some (Go.TypeDesc.struct #[{ name := "Func", type := 9, offset := 0, embedded := false, tag := "", pkgPath := "", byteOffset := 0 }, { name := "Num", type := 9, offset := 1, embedded := false, tag := "", pkgPath := "", byteOffset := 16 }, { name := "Err", type := 73, offset := 2, embedded := false, tag := "", pkgPath := "", byteOffset := 32 }]) := Tryd.underlying126
@[go_sem] theorem und127 : Tryd.prog.underlying 127 = some (Go.TypeDesc.struct #[{ name := "Func", type := 9, offset := 0, embedded := false, tag := "", pkgPath := "", byteOffset := 0 }, { name := "Num", type := 9, offset := 1, embedded := false, tag := "", pkgPath := "", byteOffset := 16 }, { name := "Err", type := 73, offset := 2, embedded := false, tag := "", pkgPath := "", byteOffset := 32 }]) := Tryd.underlying127
@[go_sem] theorem und128 : Tryd.prog.underlying 128 = some (Go.TypeDesc.func #[9] #[73] false) := Tryd.underlying128
@[go_sem] theorem und129 : Tryd.prog.underlying 129 = some (Go.TypeDesc.func #[3] #[9] false) := Tryd.underlying129
@[go_sem] theorem und130 : Tryd.prog.underlying 130 = some (Go.TypeDesc.pointer 132) := Tryd.underlying130
@[go_sem] theorem und131 : Tryd.prog.underlying 131 = some (Go.TypeDesc.struct #[{ name := "s", type := 9, offset := 0, embedded := false, tag := "", pkgPath := "errors", byteOffset := 0 }]) := Tryd.underlying131
@[go_sem] theorem und132 : Tryd.prog.underlying 132 = some (Go.TypeDesc.struct #[{ name := "s", type := 9, offset := 0, embedded := false, tag := "", pkgPath := "errors", byteOffset := 0 }]) := Tryd.underlying132
@[go_sem] theorem und133 : Tryd.prog.underlying 133 = some (Go.TypeDesc.func #[2, 3] #[9] false) := Tryd.underlying133
@[go_sem] theorem und134 : Tryd.prog.underlying 134 = some (Go.TypeDesc.array 24 5) := Tryd.underlying134
@[go_sem] theorem und135 : Tryd.prog.underlying 135 = some (Go.TypeDesc.func #[105] #[3] false) := Tryd.underlying135
@[go_sem] theorem und136 : Tryd.prog.underlying 136 = some (Go.TypeDesc.func #[41, 105] #[] false) := Tryd.underlying136
@[go_sem] theorem und137 : Tryd.prog.underlying 137 = some (Go.TypeDesc.tuple #[41, 9]) := Tryd.underlying137
@[go_sem] theorem und138 : Tryd.prog.underlying 138 = some (Go.TypeDesc.func #[41, 105, 3, 4, 4] #[41, 9] false) := Tryd.underlying138
@[go_sem] theorem und139 : Tryd.prog.underlying 139 = some (Go.TypeDesc.func #[4] #[3] false) := Tryd.underlying139
@[go_sem] theorem und140 : Tryd.prog.underlying 140 = some (Go.TypeDesc.array 20 105) := Tryd.underlying140
@[go_sem] theorem und141 : Tryd.prog.underlying 141 = some (Go.TypeDesc.int Go.IntKind.u32) := Tryd.underlying141
@[go_sem] theorem und142 : Tryd.prog.underlying 142 = some (Go.TypeDesc.array 65 5) := Tryd.underlying142
@[go_sem] theorem und143 : Tryd.prog.underlying 143 = some (Go.TypeDesc.func #[3] #[4] false) := Tryd.underlying143
@[go_sem] theorem und144 : Tryd.prog.underlying 144 = some (Go.TypeDesc.func #[115] #[3] false) := Tryd.underlying144
@[go_sem] theorem und145 : Tryd.prog.underlying 145 = some (Go.TypeDesc.func #[141] #[3] false) := Tryd.underlying145
@[go_sem] theorem und146 : Tryd.prog.underlying 146 = some (Go.TypeDesc.array 32 5) := Tryd.underlying146
@[go_sem] theorem und147 : Tryd.prog.underlying 147 = some (Go.TypeDesc.array 64 5) := Tryd.underlying147
@[go_sem] theorem und148 : Tryd.prog.underlying 148 = some (Go.TypeDesc.struct #[{ name := "_interface", type := 17, offset := 0, embedded := false, tag := "", pkgPath := "runtime", byteOffset := 0 }, { name := "concrete", type := 17, offset := 1, embedded := false, tag := "", pkgPath := "runtime", byteOffset := 8 }, { name := "asserted", type := 17, offset := 2, embedded := false, tag := "", pkgPath := "runtime", byteOffset := 16 }, { name := "missingMethod", type := 9, offset := 3, embedded := false, tag := "", pkgPath := "runtime", byteOffset := 24 }]) := Tryd.underlying148
@[go_sem] theorem und149 : Tryd.prog.underlying 149 = some (Go.TypeDesc.struct #[{ name := "_interface", type := 17, offset := 0, embedded := false, tag := "", pkgPath := "runtime", byteOffset := 0 }, { name := "concrete", type := 17, offset := 1, embedded := false, tag := "", pkgPath := "runtime", byteOffset := 8 }, { name := "asserted", type := 17, offset := 2, embedded := false, tag := "", pkgPath := "runtime", byteOffset := 16 }, { name := "missingMethod", type := 9, offset := 3, embedded := false, tag := "", pkgPath := "runtime", byteOffset := 24 }]) := Tryd.underlying149
@[go_sem] theorem und150 : Tryd.prog.underlying 150 = some (Go.TypeDesc.array 0 16) := Tryd.underlying150
@[go_sem] theorem und151 : Tryd.prog.underlying 151 = some (Go.TypeDesc.struct #[{ name := "_", type := 150, offset := 0, embedded := false, tag := "", pkgPath := "runtime", byteOffset := 0 }]) := Tryd.underlying151
@[go_sem] theorem und152 : Tryd.prog.underlying 152 = some (Go.TypeDesc.struct #[{ name := "_", type := 150, offset := 0, embedded := false, tag := "", pkgPath := "runtime", byteOffset := 0 }]) := Tryd.underlying152
@[go_sem] theorem und153 : Tryd.prog.underlying 153 = some (Go.TypeDesc.func #[] #[3] false) := Tryd.underlying153
@[go_sem] theorem und154 : Tryd.prog.underlying 154 = some (Go.TypeDesc.int Go.IntKind.u8) := Tryd.underlying154
@[go_sem] theorem und155 : Tryd.prog.underlying 155 = some (Go.TypeDesc.int Go.IntKind.u8) := Tryd.underlying155
@[go_sem] theorem und156 : Tryd.prog.underlying 156 = some (Go.TypeDesc.func #[99, 99] #[4] false) := Tryd.underlying156
@[go_sem] theorem und157 : Tryd.prog.underlying 157 = some (Go.TypeDesc.int Go.IntKind.i32) := Tryd.underlying157
@[go_sem] theorem und158 : Tryd.prog.underlying 158 = some (Go.TypeDesc.int Go.IntKind.i32) := Tryd.underlying158
@[go_sem] theorem und159 : Tryd.prog.underlying 159 = some (Go.TypeDesc.struct #[{ name := "Size_", type := 12, offset := 0, embedded := false, tag := "", pkgPath := "", byteOffset := 0 }, { name := "PtrBytes", type := 12, offset := 1, embedded := false, tag := "", pkgPath := "", byteOffset := 8 }, { name := "Hash", type := 141, offset := 2, embedded := false, tag := "", pkgPath := "", byteOffset := 16 }, { name := "TFlag", type := 154, offset := 3, embedded := false, tag := "", pkgPath := "", byteOffset := 20 }, { name := "Align_", type := 5, offset := 4, embedded := false, tag := "", pkgPath := "", byteOffset := 21 }, { name := "FieldAlign_", type := 5, offset := 5, embedded := false, tag := "", pkgPath := "", byteOffset := 22 }, { name := "Kind_", type := 155, offset := 6, embedded := false, tag := "", pkgPath := "", byteOffset := 23 }, { name := "Equal", type := 156, offset := 7, embedded := false, tag := "", pkgPath := "", byteOffset := 24 }, { name := "GCData", type := 77, offset := 8, embedded := false, tag := "", pkgPath := "", byteOffset := 32 }, { name := "Str", type := 157, offset := 9, embedded := false, tag := "", pkgPath := "", byteOffset := 40 }, { name := "PtrToThis", type := 158, offset := 10, embedded := false, tag := "", pkgPath := "", byteOffset := 44 }]) := Tryd.underlying159
@[go_sem] theorem und160 : Tryd.prog.underlying 160 = some (Go.TypeDesc.struct #[{ name := "Size_", type := 12, offset := 0, embedded := false, tag := "", pkgPath := "", byteOffset := 0 }, { name := "PtrBytes", type := 12, offset := 1, embedded := false, tag := "", pkgPath := "", byteOffset := 8 }, { name := "Hash", type := 141, offset := 2, embedded := false, tag := "", pkgPath := "", byteOffset := 16 }, { name := "TFlag", type := 154, offset := 3, embedded := false, tag := "", pkgPath := "", byteOffset := 20 }, { name := "Align_", type := 5, offset := 4, embedded := false, tag := "", pkgPath := "", byteOffset := 21 }, { name := "FieldAlign_", type := 5, offset := 5, embedded := false, tag := "", pkgPath := "", byteOffset := 22 }, { name := "Kind_", type := 155, offset := 6, embedded := false, tag := "", pkgPath := "", byteOffset := 23 }, { name := "Equal", type := 156, offset := 7, embedded := false, tag := "", pkgPath := "", byteOffset := 24 }, { name := "GCData", type := 77, offset := 8, embedded := false, tag := "", pkgPath := "", byteOffset := 32 }, { name := "Str", type := 157, offset := 9, embedded := false, tag := "", pkgPath := "", byteOffset := 40 }, { name := "PtrToThis", type := 158, offset := 10, embedded := false, tag := "", pkgPath := "", byteOffset := 44 }]) := Tryd.underlying160
set_option maxRecDepth 100000
def impCodC : FuncId → Bool := fun f => f == 26 || f == 27 || f == 29 || f == 30 || f == 31 || f == 37 || f == 39 || f == 40 || f == 41 || f == 42 || f == 48 || f == 54 || f == 55 || f == 75
/-- escutcheon/page.Of -/
def lc12 : LCode := .seq (.reg []
  [o1 2 (.alloc 26)]) (.seq (.reg []
  [o1 5 (.build 26 #[(0, .const (.int .i64 6))]),
  o1 3 (.alloc 26),
  o3 (.store 26 (.tmp 3) (.tmp 5))]) (.seq (.seq (.reg []
  [o1 6 (.move (.tmp 0)),
  o1 7 (.call ⟨.value (.func 25), #[.tmp 6, .const (.int .i64 2)], #[23, 3]⟩)]) (.block 0 (.bad))) (.seq (.reg []
  [o1 29 (.load 26 (.tmp 3)),
  o3 (.store 26 (.tmp 2) (.tmp 29))]) (.ret))))
/-- escutcheon/page.Good -/
def lc19 : LCode := .seq (.reg []
  [o1 1 (.box 26 (.tmp 0)),
  o1 2 (.assign (.const (.int .i64 0)))]) (.seq (.reg []
  [o1 3 (.load 26 (.tmp 1)),
  o1 4 (.call ⟨.value (.func 33), #[.tmp 3, .const (.int .i64 1)], #[26, 3]⟩),
  o1 2 (.assign (.tmp 4))]) (.ret))
theorem ls19 : Tryd.f19.body.map (strip Tryd.prog impCodC) = some lc19 := by kernel_rfl
theorem lcall19 : LC 19 5 lc19 [.tmp 2] := LC.of Tryd.func19 (by kernel_rfl) ls19 (by kernel_rfl) (by kernel_rfl)
/-- (escutcheon/page.Value).good -/
def lc33 : LCode := .seq (.reg []
  [o1 2 (.box 26 (.tmp 0)),
  o1 4 (.assign (.const (.int .i64 0)))]) (.seq (.block 0 (.seq (.reg []
  [o1 9 (.move (.tmp 1)),
  o1 10 (.binOp .gtr 3 (.tmp 9) (.const (.int .i64 8)) 3),
  o1 8 (.assign (.tmp 10))]) (.cond (.tmp 8) (.seq (.reg []
  [o1 4 (.assign (.const (.int .i64 9)))]) (.ret)) (.seq (.reg []
  [o1 12 (.load 26 (.tmp 2)),
  o1 13 (.call ⟨.value (.func 46), #[.tmp 12], #[26]⟩),
  o1 14 (.unOp .not 4 (.tmp 13)),
  o1 11 (.assign (.tmp 14))]) (.cond (.tmp 11) (.seq (.reg []
  [o1 4 (.assign (.const (.int .i64 2)))]) (.ret)) (.seq (.reg []
  [o1 16 (.fieldAddr 26 (.tmp 2) 3),
  o1 17 (.load 24 (.tmp 16)),
  o1 18 (.call ⟨.builtin .len, #[.tmp 17], #[24]⟩),
  o1 19 (.binOp .gtr 3 (.tmp 18) (.const (.int .i64 64)) 3),
  o1 15 (.assign (.tmp 19))]) (.cond (.tmp 15) (.seq (.reg []
  [o1 4 (.assign (.const (.int .i64 11)))]) (.ret)) (.seq (.reg []
  [o1 21 (.fieldAddr 26 (.tmp 2) 2),
  o1 22 (.load 23 (.tmp 21)),
  o1 23 (.call ⟨.value (.func 47), #[.tmp 22], #[23]⟩),
  o1 20 (.assign (.tmp 23))]) (.cond (.tmp 20) (.seq (.reg []
  [o1 4 (.assign (.const (.int .i64 10)))]) (.ret)) (.skip)))))))))) (.seq (.seq (.reg []
  [o1 24 (.fieldAddr 26 (.tmp 2) 3),
  o1 25 (.load 24 (.tmp 24)),
  o1 26 (.call ⟨.builtin .len, #[.tmp 25], #[24]⟩),
  o1 27 (.move (.const (.int .i64 0)))]) (.block 1 (.loop (.seq (.reg []
  [o1 28 (.binOp .lss 3 (.tmp 27) (.tmp 26) 3)]) (.seq (.cond (.tmp 28) (.skip) (.exit 1)) (.seq (.block 2 (.seq (.reg []
  [o1 29 (.indexAddr 24 (.tmp 25) (.tmp 27)),
  o1 30 (.load 26 (.tmp 29)),
  o1 6 (.alloc 26),
  o3 (.store 26 (.tmp 6) (.tmp 30))]) (.seq (.reg []
  [o1 31 (.load 26 (.tmp 6)),
  o1 32 (.move (.tmp 1)),
  o1 33 (.binOp .add 3 (.tmp 32) (.const (.int .i64 1)) 3),
  o1 34 (.call ⟨.value (.func 33), #[.tmp 31, .tmp 33], #[26, 3]⟩),
  o1 7 (.assign (.tmp 34))]) (.seq (.reg []
  [o1 35 (.move (.tmp 7)),
  o1 36 (.binOp .neq 34 (.tmp 35) (.const (.int .i64 0)) 34)]) (.cond (.tmp 36) (.seq (.reg []
  [o1 37 (.move (.tmp 7)),
  o1 4 (.assign (.tmp 37))]) (.ret)) (.skip)))))) (.reg []
  [o1 38 (.binOp .add 3 (.tmp 27) (.const (.int .i64 1)) 3),
  o1 27 (.move (.tmp 38))]))))))) (.seq (.reg []
  [o1 4 (.assign (.const (.int .i64 0)))]) (.ret))))
def ms33_0 : List Nat := [0, 2, 3, 4, 5, 6, 7, 8, 9, 10, 11, 12, 13, 14, 15, 16, 17, 18, 19, 20, 21, 22, 23, 24, 27, 28, 29, 30, 31, 32, 33, 34, 35, 36, 37, 38]
theorem ls33 : Tryd.f33.body.map (strip Tryd.prog impCodC) = some lc33 := by kernel_rfl
theorem lcall33 : LC 33 39 lc33 [.tmp 4] := LC.of Tryd.func33 (by kernel_rfl) ls33 (by kernel_rfl) (by kernel_rfl)
/-- (escutcheon/page.Value).form -/
def lc46 : LCode := .seq (.reg []
  [o1 1 (.box 26 (.tmp 0)),
  o1 2 (.assign (.const (.bool false)))]) (.seq (.seq (.reg []
  [o1 3 (.fieldAddr 26 (.tmp 1) 0),
  o1 4 (.load 22 (.tmp 3))]) (.block 0 (.seq (.seq (.reg []
  [o1 6 (.binOp .eql 22 (.tmp 4) (.const (.int .i64 0)) 22),
  o1 5 (.assign (.tmp 6))]) (.cond (.tmp 5) (.skip) (.seq (.reg []
  [o1 7 (.binOp .eql 22 (.tmp 4) (.const (.int .i64 1)) 22),
  o1 5 (.assign (.tmp 7))]) (.cond (.tmp 5) (.skip) (.reg []
  [o1 8 (.binOp .eql 22 (.tmp 4) (.const (.int .i64 2)) 22),
  o1 5 (.assign (.tmp 8))]))))) (.cond (.tmp 5) (.seq (.reg []
  [o1 9 (.fieldAddr 26 (.tmp 1) 1),
  o1 10 (.load 9 (.tmp 9)),
  o1 11 (.binOp .eql 9 (.tmp 10) (.const (.string { data := #[] })) 9),
  o1 12 (.move (.tmp 11)),
  o2 13 (.fieldAddr 26 (.tmp 1) 2) 12 true,
  o2 14 (.load 23 (.tmp 13)) 12 true,
  o2 15 (.call ⟨.builtin .len, #[.tmp 14], #[23]⟩) 12 true,
  o2 16 (.binOp .eql 3 (.tmp 15) (.const (.int .i64 0)) 3) 12 true,
  o1 17 (.pick (.tmp 12) (.tmp 16) (.const (.bool false))),
  o1 18 (.move (.tmp 17)),
  o2 19 (.fieldAddr 26 (.tmp 1) 3) 18 true,
  o2 20 (.load 24 (.tmp 19)) 18 true,
  o2 21 (.call ⟨.builtin .len, #[.tmp 20], #[24]⟩) 18 true,
  o2 22 (.binOp .eql 3 (.tmp 21) (.const (.int .i64 0)) 3) 18 true,
  o1 23 (.pick (.tmp 18) (.tmp 22) (.const (.bool false))),
  o1 2 (.assign (.tmp 23))]) (.ret)) (.seq (.reg []
  [o1 25 (.binOp .eql 22 (.tmp 4) (.const (.int .i64 3)) 22),
  o1 24 (.assign (.tmp 25))]) (.cond (.tmp 24) (.seq (.reg [o1 26 (.fieldAddr 26 (.tmp 1) 2),
  o1 27 (.load 23 (.tmp 26)),
  o1 28 (.call ⟨.builtin .len, #[.tmp 27], #[23]⟩),
  o1 29 (.binOp .eql 3 (.tmp 28) (.const (.int .i64 0)) 3),
  o1 30 (.move (.tmp 29)),
  o2 31 (.fieldAddr 26 (.tmp 1) 3) 30 true,
  o2 32 (.load 24 (.tmp 31)) 30 true,
  o2 33 (.call ⟨.builtin .len, #[.tmp 32], #[24]⟩) 30 true,
  o2 34 (.binOp .eql 3 (.tmp 33) (.const (.int .i64 0)) 3) 30 true,
  o1 35 (.pick (.tmp 30) (.tmp 34) (.const (.bool false))),
  o1 36 (.move (.tmp 35)),
  o2 37 (.fieldAddr 26 (.tmp 1) 1) 36 true,
  o2 38 (.load 9 (.tmp 37)) 36 true,
  o2 39 (.binOp .neq 9 (.tmp 38) (.const (.string { data := #[] })) 9) 36 true,
  o1 40 (.pick (.tmp 36) (.tmp 39) (.const (.bool false))),
  o1 41 (.move (.tmp 40)),
  o2 42 (.fieldAddr 26 (.tmp 1) 1) 41 true,
  o2 43 (.load 9 (.tmp 42)) 41 true,
  o2 44 (.call ⟨.builtin .len, #[.tmp 43], #[9]⟩) 41 true,
  o2 45 (.binOp .leq 3 (.tmp 44) (.const (.int .i64 40)) 3) 41 true,
  o1 46 (.pick (.tmp 41) (.tmp 45) (.const (.bool false))),
  o1 47 (.move (.tmp 46)),
  o2 48 (.fieldAddr 26 (.tmp 1) 1) 47 true,
  o2 49 (.load 9 (.tmp 48)) 47 true,
  o2 50 (.call ⟨.value (.func 43), #[.tmp 49], #[9]⟩) 47 true,
  o2 51 (.fieldAddr 26 (.tmp 1) 1) 47 true,
  o2 52 (.load 9 (.tmp 51)) 47 true,
  o2 53 (.call ⟨.builtin .len, #[.tmp 52], #[9]⟩) 47 true,
  o2 54 (.binOp .eql 3 (.tmp 50) (.tmp 53) 3) 47 true,
  o1 55 (.pick (.tmp 47) (.tmp 54) (.const (.bool false))),
  o1 2 (.assign (.tmp 55))]
  []) (.ret)) (.seq (.reg []
  [o1 57 (.binOp .eql 22 (.tmp 4) (.const (.int .i64 4)) 22),
  o1 56 (.assign (.tmp 57))]) (.cond (.tmp 56) (.seq (.reg []
  [o1 58 (.fieldAddr 26 (.tmp 1) 2),
  o1 59 (.load 23 (.tmp 58)),
  o1 60 (.call ⟨.builtin .len, #[.tmp 59], #[23]⟩),
  o1 61 (.binOp .eql 3 (.tmp 60) (.const (.int .i64 0)) 3),
  o1 62 (.move (.tmp 61)),
  o2 63 (.fieldAddr 26 (.tmp 1) 3) 62 true,
  o2 64 (.load 24 (.tmp 63)) 62 true,
  o2 65 (.call ⟨.builtin .len, #[.tmp 64], #[24]⟩) 62 true,
  o2 66 (.binOp .eql 3 (.tmp 65) (.const (.int .i64 0)) 3) 62 true,
  o1 67 (.pick (.tmp 62) (.tmp 66) (.const (.bool false))),
  o1 68 (.move (.tmp 67)),
  o2 69 (.fieldAddr 26 (.tmp 1) 1) 68 true,
  o2 70 (.load 9 (.tmp 69)) 68 true,
  o2 71 (.call ⟨.value (.func 62), #[.tmp 70], #[9]⟩) 68 true,
  o1 72 (.pick (.tmp 68) (.tmp 71) (.const (.bool false))),
  o1 2 (.assign (.tmp 72))]) (.ret)) (.seq (.reg []
  [o1 74 (.binOp .eql 22 (.tmp 4) (.const (.int .i64 5)) 22),
  o1 73 (.assign (.tmp 74))]) (.cond (.tmp 73) (.seq (.reg []
  [o1 75 (.fieldAddr 26 (.tmp 1) 1),
  o1 76 (.load 9 (.tmp 75)),
  o1 77 (.binOp .eql 9 (.tmp 76) (.const (.string { data := #[] })) 9),
  o1 78 (.move (.tmp 77)),
  o2 79 (.fieldAddr 26 (.tmp 1) 2) 78 true,
  o2 80 (.load 23 (.tmp 79)) 78 true,
  o2 81 (.call ⟨.builtin .len, #[.tmp 80], #[23]⟩) 78 true,
  o2 82 (.binOp .eql 3 (.tmp 81) (.const (.int .i64 0)) 3) 78 true,
  o1 83 (.pick (.tmp 78) (.tmp 82) (.const (.bool false))),
  o1 2 (.assign (.tmp 83))]) (.ret)) (.seq (.reg []
  [o1 85 (.binOp .eql 22 (.tmp 4) (.const (.int .i64 6)) 22),
  o1 84 (.assign (.tmp 85))]) (.cond (.tmp 84) (.seq (.reg []
  [o1 86 (.fieldAddr 26 (.tmp 1) 1),
  o1 87 (.load 9 (.tmp 86)),
  o1 88 (.binOp .eql 9 (.tmp 87) (.const (.string { data := #[] })) 9),
  o1 89 (.move (.tmp 88)),
  o2 90 (.fieldAddr 26 (.tmp 1) 2) 89 true,
  o2 91 (.load 23 (.tmp 90)) 89 true,
  o2 92 (.call ⟨.builtin .len, #[.tmp 91], #[23]⟩) 89 true,
  o2 93 (.fieldAddr 26 (.tmp 1) 3) 89 true,
  o2 94 (.load 24 (.tmp 93)) 89 true,
  o2 95 (.call ⟨.builtin .len, #[.tmp 94], #[24]⟩) 89 true,
  o2 96 (.binOp .eql 3 (.tmp 92) (.tmp 95) 3) 89 true,
  o1 97 (.pick (.tmp 89) (.tmp 96) (.const (.bool false))),
  o1 98 (.move (.tmp 97)),
  o2 99 (.fieldAddr 26 (.tmp 1) 2) 98 true,
  o2 100 (.load 23 (.tmp 99)) 98 true,
  o2 101 (.call ⟨.value (.func 63), #[.tmp 100, .func 64], #[23, 37]⟩) 98 true,
  o2 102 (.unOp .not 4 (.tmp 101)) 98 true,
  o1 103 (.pick (.tmp 98) (.tmp 102) (.const (.bool false))),
  o1 2 (.assign (.tmp 103))]) (.ret)) (.skip))))))))))))) (.seq (.reg []
  [o1 2 (.assign (.const (.bool false)))]) (.ret)))
theorem ls46 : Tryd.f46.body.map (strip Tryd.prog impCodC) = some lc46 := by kernel_rfl
theorem lcall46 : LC 46 104 lc46 [.tmp 2] := LC.of Tryd.func46 (by kernel_rfl) ls46 (by kernel_rfl) (by kernel_rfl)
/-- escutcheon/page.twice -/
def lc47 : LCode := .seq (.reg []
  [o1 2 (.assign (.const (.bool false)))]) (.seq (.seq (.reg []
  [o1 5 (.move (.tmp 0)),
  o1 6 (.call ⟨.builtin .len, #[.tmp 5], #[23]⟩),
  o1 7 (.move (.const (.int .i64 0)))]) (.block 0 (.loop (.seq (.reg []
  [o1 8 (.binOp .lss 3 (.tmp 7) (.tmp 6) 3)]) (.seq (.cond (.tmp 8) (.skip) (.exit 0)) (.seq (.block 1 (.seq (.reg []
  [o1 9 (.move (.tmp 7)),
  o1 10 (.indexAddr 23 (.tmp 5) (.tmp 7)),
  o1 11 (.load 9 (.tmp 10)),
  o1 3 (.assign (.tmp 9)),
  o1 4 (.assign (.tmp 11))]) (.seq (.reg []
  [o1 12 (.move (.tmp 0)),
  o1 13 (.move (.tmp 3)),
  o1 14 (.slice 23 (.tmp 12) none (some (.tmp 13)) none),
  o1 15 (.move (.tmp 4)),
  o1 16 (.call ⟨.value (.func 65), #[.tmp 14, .tmp 15], #[23, 9]⟩)]) (.cond (.tmp 16) (.seq (.reg []
  [o1 2 (.assign (.const (.bool true)))]) (.ret)) (.skip))))) (.reg []
  [o1 17 (.binOp .add 3 (.tmp 7) (.const (.int .i64 1)) 3),
  o1 7 (.move (.tmp 17))]))))))) (.seq (.reg []
  [o1 2 (.assign (.const (.bool false)))]) (.ret)))
def ms47_0 : List Nat := [1, 2, 3, 4, 7, 8, 9, 10, 11, 12, 13, 14, 15, 16, 17]
theorem ls47 : Tryd.f47.body.map (strip Tryd.prog impCodC) = some lc47 := by kernel_rfl
theorem lcall47 : LC 47 18 lc47 [.tmp 2] := LC.of Tryd.func47 (by kernel_rfl) ls47 (by kernel_rfl) (by kernel_rfl)
/-- (escutcheon/page.Value).Get -/
def lc10 : LCode := .seq (.reg []
  [o1 2 (.box 26 (.tmp 0)),
  o1 4 (.alloc 26),
  o1 5 (.assign (.const (.bool false)))]) (.seq (.reg []
  [o1 7 (.fieldAddr 26 (.tmp 2) 2),
  o1 8 (.load 23 (.tmp 7)),
  o1 9 (.move (.tmp 1)),
  o1 10 (.call ⟨.value (.func 22), #[.tmp 8, .tmp 9], #[23, 9]⟩),
  o1 6 (.assign (.tmp 10))]) (.seq (.seq (.reg []
  [o1 11 (.fieldAddr 26 (.tmp 2) 0),
  o1 12 (.load 22 (.tmp 11)),
  o1 13 (.binOp .neq 22 (.tmp 12) (.const (.int .i64 6)) 22),
  o1 14 (.move (.tmp 13)),
  o2 15 (.move (.tmp 6)) 14 false,
  o2 16 (.binOp .lss 3 (.tmp 15) (.const (.int .i64 0)) 3) 14 false,
  o1 17 (.pick (.tmp 14) (.const (.bool true)) (.tmp 16)),
  o1 18 (.move (.tmp 17)),
  o2 19 (.move (.tmp 6)) 18 false,
  o2 20 (.fieldAddr 26 (.tmp 2) 3) 18 false,
  o2 21 (.load 24 (.tmp 20)) 18 false,
  o2 22 (.call ⟨.builtin .len, #[.tmp 21], #[24]⟩) 18 false,
  o2 23 (.binOp .geq 3 (.tmp 19) (.tmp 22) 3) 18 false,
  o1 24 (.pick (.tmp 18) (.const (.bool true)) (.tmp 23))]) (.cond (.tmp 24) (.seq (.reg []
  [o1 25 (.build 26 #[]),
  o3 (.store 26 (.tmp 4) (.tmp 25)),
  o1 5 (.assign (.const (.bool false)))]) (.ret)) (.skip))) (.seq (.reg []
  [o1 26 (.fieldAddr 26 (.tmp 2) 3),
  o1 27 (.load 24 (.tmp 26)),
  o1 28 (.move (.tmp 6)),
  o1 29 (.indexAddr 24 (.tmp 27) (.tmp 28)),
  o1 30 (.load 26 (.tmp 29)),
  o3 (.store 26 (.tmp 4) (.tmp 30)),
  o1 5 (.assign (.const (.bool true)))]) (.ret))))
theorem ls10 : Tryd.f10.body.map (strip Tryd.prog impCodC) = some lc10 := by kernel_rfl
theorem lcall10 : LC 10 31 lc10 [.cell 4 26, .tmp 5] := LC.of Tryd.func10 (by kernel_rfl) ls10 (by kernel_rfl) (by kernel_rfl)
/-- unicode/utf8.ValidString -/
def lc62 : LCode := .seq (.reg []
  [o1 2 (.assign (.const (.bool false)))]) (.seq (.block 0 (.loop (.seq (.seq (.reg []
  [o1 7 (.move (.tmp 0)),
  o1 8 (.call ⟨.builtin .len, #[.tmp 7], #[9]⟩),
  o1 9 (.binOp .gtr 3 (.tmp 8) (.const (.int .i64 0)) 3)]) (.cond (.tmp 9) (.skip) (.exit 0))) (.block 1 (.seq (.reg []
  [o1 10 (.move (.tmp 0)),
  o1 11 (.index 9 (.tmp 10) (.const (.int .i64 0))),
  o1 3 (.assign (.tmp 11))]) (.seq (.seq (.reg []
  [o1 12 (.move (.tmp 3)),
  o1 13 (.binOp .lss 5 (.tmp 12) (.const (.int .u8 128)) 5)]) (.cond (.tmp 13) (.seq (.reg []
  [o1 14 (.move (.tmp 0)),
  o1 15 (.slice 9 (.tmp 14) (some (.const (.int .i64 1))) none none),
  o1 0 (.assign (.tmp 15))]) (.seq (.seq (.reg []
  [o1 16 (.move (.tmp 0)),
  o1 17 (.call ⟨.builtin .len, #[.tmp 16], #[9]⟩),
  o1 18 (.binOp .gtr 3 (.tmp 17) (.const (.int .i64 8)) 3),
  o1 19 (.move (.tmp 18)),
  o2 20 (.move (.tmp 0)) 19 true,
  o2 21 (.call ⟨.value (.func 77), #[.tmp 20], #[9]⟩) 19 true,
  o2 22 (.binOp .and 12 (.tmp 21) (.const (.int .u64 9259542123273814144)) 12) 19 true,
  o2 23 (.binOp .eql 12 (.tmp 22) (.const (.int .u64 0)) 12) 19 true,
  o1 24 (.pick (.tmp 19) (.tmp 23) (.const (.bool false)))]) (.cond (.tmp 24) (.seq (.reg []
  [o1 25 (.move (.tmp 0)),
  o1 26 (.slice 9 (.tmp 25) (some (.const (.int .i64 8))) none none),
  o1 0 (.assign (.tmp 26))]) (.seq (.reg [o1 27 (.move (.tmp 0)),
  o1 28 (.call ⟨.builtin .len, #[.tmp 27], #[9]⟩),
  o1 29 (.binOp .gtr 3 (.tmp 28) (.const (.int .i64 16)) 3),
  o1 30 (.move (.tmp 29)),
  o2 31 (.move (.tmp 0)) 30 true,
  o2 32 (.call ⟨.value (.func 77), #[.tmp 31], #[9]⟩) 30 true,
  o2 33 (.move (.tmp 0)) 30 true,
  o2 34 (.slice 9 (.tmp 33) (some (.const (.int .i64 8))) none none) 30 true,
  o2 35 (.call ⟨.value (.func 77), #[.tmp 34], #[9]⟩) 30 true,
  o2 36 (.binOp .or 12 (.tmp 32) (.tmp 35) 12) 30 true,
  o2 37 (.binOp .and 12 (.tmp 36) (.const (.int .u64 9259542123273814144)) 12) 30 true,
  o2 38 (.binOp .eql 12 (.tmp 37) (.const (.int .u64 0)) 12) 30 true,
  o1 39 (.pick (.tmp 30) (.tmp 38) (.const (.bool false)))]
  []) (.cond (.tmp 39) (.seq (.reg []
  [o1 40 (.move (.tmp 0)),
  o1 41 (.slice 9 (.tmp 40) (some (.const (.int .i64 16))) none none),
  o1 0 (.assign (.tmp 41))]) (.block 2 (.loop (.seq (.seq (.reg [o1 42 (.move (.tmp 0)),
  o1 43 (.call ⟨.builtin .len, #[.tmp 42], #[9]⟩),
  o1 44 (.binOp .gtr 3 (.tmp 43) (.const (.int .i64 32)) 3),
  o1 45 (.move (.tmp 44)),
  o2 46 (.move (.tmp 0)) 45 true,
  o2 47 (.call ⟨.value (.func 77), #[.tmp 46], #[9]⟩) 45 true,
  o2 48 (.move (.tmp 0)) 45 true,
  o2 49 (.slice 9 (.tmp 48) (some (.const (.int .i64 8))) none none) 45 true,
  o2 50 (.call ⟨.value (.func 77), #[.tmp 49], #[9]⟩) 45 true,
  o2 51 (.binOp .or 12 (.tmp 47) (.tmp 50) 12) 45 true,
  o2 52 (.move (.tmp 0)) 45 true,
  o2 53 (.slice 9 (.tmp 52) (some (.const (.int .i64 16))) none none) 45 true,
  o2 54 (.call ⟨.value (.func 77), #[.tmp 53], #[9]⟩) 45 true,
  o2 55 (.move (.tmp 0)) 45 true,
  o2 56 (.slice 9 (.tmp 55) (some (.const (.int .i64 24))) none none) 45 true,
  o2 57 (.call ⟨.value (.func 77), #[.tmp 56], #[9]⟩) 45 true,
  o2 58 (.binOp .or 12 (.tmp 54) (.tmp 57) 12) 45 true,
  o2 59 (.binOp .or 12 (.tmp 51) (.tmp 58) 12) 45 true,
  o2 60 (.binOp .and 12 (.tmp 59) (.const (.int .u64 9259542123273814144)) 12) 45 true,
  o2 61 (.binOp .eql 12 (.tmp 60) (.const (.int .u64 0)) 12) 45 true,
  o1 62 (.pick (.tmp 45) (.tmp 61) (.const (.bool false)))]
  []) (.cond (.tmp 62) (.skip) (.exit 2))) (.block 3 (.reg []
  [o1 63 (.move (.tmp 0)),
  o1 64 (.slice 9 (.tmp 63) (some (.const (.int .i64 32))) none none),
  o1 0 (.assign (.tmp 64))])))))) (.skip)))) (.skip))) (.exit 1))) (.skip))) (.seq (.reg []
  [o1 65 (.move (.tmp 3)),
  o1 66 (.indexAddr 111 (.global 2) (.tmp 65)),
  o1 67 (.load 5 (.tmp 66)),
  o1 4 (.assign (.tmp 67))]) (.seq (.reg []
  [o1 68 (.move (.tmp 4)),
  o1 69 (.binOp .and 5 (.tmp 68) (.const (.int .u8 7)) 5),
  o1 70 (.convert 5 3 (.tmp 69)),
  o1 5 (.assign (.tmp 70))]) (.seq (.reg []
  [o1 71 (.move (.tmp 4)),
  o1 72 (.binOp .shr 5 (.tmp 71) (.const (.int .u64 4)) 115),
  o1 73 (.indexAddr 114 (.global 3) (.tmp 72)),
  o1 74 (.load 113 (.tmp 73)),
  o1 6 (.alloc 113),
  o3 (.store 113 (.tmp 6) (.tmp 74))]) (.seq (.reg []
  [o1 75 (.move (.tmp 5))]) (.block 4 (.seq (.reg []
  [o1 77 (.binOp .eql 3 (.tmp 75) (.const (.int .i64 2)) 3),
  o1 76 (.assign (.tmp 77))]) (.cond (.tmp 76) (.seq (.seq (.reg [o1 78 (.move (.tmp 0)),
  o1 79 (.call ⟨.builtin .len, #[.tmp 78], #[9]⟩),
  o1 80 (.binOp .lss 3 (.tmp 79) (.const (.int .i64 2)) 3),
  o1 81 (.move (.tmp 80)),
  o2 82 (.move (.tmp 0)) 81 false,
  o2 83 (.index 9 (.tmp 82) (.const (.int .i64 1))) 81 false,
  o2 84 (.fieldAddr 113 (.tmp 6) 0) 81 false,
  o2 85 (.load 5 (.tmp 84)) 81 false,
  o2 86 (.binOp .lss 5 (.tmp 83) (.tmp 85) 5) 81 false,
  o1 87 (.pick (.tmp 81) (.const (.bool true)) (.tmp 86)),
  o1 88 (.move (.tmp 87)),
  o2 89 (.fieldAddr 113 (.tmp 6) 1) 88 false,
  o2 90 (.load 5 (.tmp 89)) 88 false,
  o2 91 (.move (.tmp 0)) 88 false,
  o2 92 (.index 9 (.tmp 91) (.const (.int .i64 1))) 88 false,
  o2 93 (.binOp .lss 5 (.tmp 90) (.tmp 92) 5) 88 false,
  o1 94 (.pick (.tmp 88) (.const (.bool true)) (.tmp 93))]
  []) (.cond (.tmp 94) (.seq (.reg []
  [o1 2 (.assign (.const (.bool false)))]) (.ret)) (.skip))) (.reg []
  [o1 95 (.move (.tmp 0)),
  o1 96 (.slice 9 (.tmp 95) (some (.const (.int .i64 2))) none none),
  o1 0 (.assign (.tmp 96))])) (.seq (.reg []
  [o1 98 (.binOp .eql 3 (.tmp 75) (.const (.int .i64 3)) 3),
  o1 97 (.assign (.tmp 98))]) (.cond (.tmp 97) (.seq (.seq (.reg [o1 99 (.move (.tmp 0)),
  o1 100 (.call ⟨.builtin .len, #[.tmp 99], #[9]⟩),
  o1 101 (.binOp .lss 3 (.tmp 100) (.const (.int .i64 3)) 3),
  o1 102 (.move (.tmp 101)),
  o2 103 (.move (.tmp 0)) 102 false,
  o2 104 (.index 9 (.tmp 103) (.const (.int .i64 1))) 102 false,
  o2 105 (.fieldAddr 113 (.tmp 6) 0) 102 false,
  o2 106 (.load 5 (.tmp 105)) 102 false,
  o2 107 (.binOp .lss 5 (.tmp 104) (.tmp 106) 5) 102 false,
  o1 108 (.pick (.tmp 102) (.const (.bool true)) (.tmp 107)),
  o1 109 (.move (.tmp 108)),
  o2 110 (.fieldAddr 113 (.tmp 6) 1) 109 false,
  o2 111 (.load 5 (.tmp 110)) 109 false,
  o2 112 (.move (.tmp 0)) 109 false,
  o2 113 (.index 9 (.tmp 112) (.const (.int .i64 1))) 109 false,
  o2 114 (.binOp .lss 5 (.tmp 111) (.tmp 113) 5) 109 false,
  o1 115 (.pick (.tmp 109) (.const (.bool true)) (.tmp 114)),
  o1 116 (.move (.tmp 115)),
  o2 117 (.move (.tmp 0)) 116 false,
  o2 118 (.index 9 (.tmp 117) (.const (.int .i64 2))) 116 false,
  o2 119 (.binOp .lss 5 (.tmp 118) (.const (.int .u8 128)) 5) 116 false,
  o1 120 (.pick (.tmp 116) (.const (.bool true)) (.tmp 119)),
  o1 121 (.move (.tmp 120)),
  o2 122 (.move (.tmp 0)) 121 false,
  o2 123 (.index 9 (.tmp 122) (.const (.int .i64 2))) 121 false,
  o2 124 (.binOp .lss 5 (.const (.int .u8 191)) (.tmp 123) 5) 121 false,
  o1 125 (.pick (.tmp 121) (.const (.bool true)) (.tmp 124))]
  []) (.cond (.tmp 125) (.seq (.reg []
  [o1 2 (.assign (.const (.bool false)))]) (.ret)) (.skip))) (.reg []
  [o1 126 (.move (.tmp 0)),
  o1 127 (.slice 9 (.tmp 126) (some (.const (.int .i64 3))) none none),
  o1 0 (.assign (.tmp 127))])) (.seq (.reg []
  [o1 129 (.binOp .eql 3 (.tmp 75) (.const (.int .i64 4)) 3),
  o1 128 (.assign (.tmp 129))]) (.cond (.tmp 128) (.seq (.seq (.reg [o1 130 (.move (.tmp 0)),
  o1 131 (.call ⟨.builtin .len, #[.tmp 130], #[9]⟩),
  o1 132 (.binOp .lss 3 (.tmp 131) (.const (.int .i64 4)) 3),
  o1 133 (.move (.tmp 132)),
  o2 134 (.move (.tmp 0)) 133 false,
  o2 135 (.index 9 (.tmp 134) (.const (.int .i64 1))) 133 false,
  o2 136 (.fieldAddr 113 (.tmp 6) 0) 133 false,
  o2 137 (.load 5 (.tmp 136)) 133 false,
  o2 138 (.binOp .lss 5 (.tmp 135) (.tmp 137) 5) 133 false,
  o1 139 (.pick (.tmp 133) (.const (.bool true)) (.tmp 138)),
  o1 140 (.move (.tmp 139)),
  o2 141 (.fieldAddr 113 (.tmp 6) 1) 140 false,
  o2 142 (.load 5 (.tmp 141)) 140 false,
  o2 143 (.move (.tmp 0)) 140 false,
  o2 144 (.index 9 (.tmp 143) (.const (.int .i64 1))) 140 false,
  o2 145 (.binOp .lss 5 (.tmp 142) (.tmp 144) 5) 140 false,
  o1 146 (.pick (.tmp 140) (.const (.bool true)) (.tmp 145)),
  o1 147 (.move (.tmp 146)),
  o2 148 (.move (.tmp 0)) 147 false,
  o2 149 (.index 9 (.tmp 148) (.const (.int .i64 2))) 147 false,
  o2 150 (.binOp .lss 5 (.tmp 149) (.const (.int .u8 128)) 5) 147 false,
  o1 151 (.pick (.tmp 147) (.const (.bool true)) (.tmp 150)),
  o1 152 (.move (.tmp 151)),
  o2 153 (.move (.tmp 0)) 152 false,
  o2 154 (.index 9 (.tmp 153) (.const (.int .i64 2))) 152 false,
  o2 155 (.binOp .lss 5 (.const (.int .u8 191)) (.tmp 154) 5) 152 false,
  o1 156 (.pick (.tmp 152) (.const (.bool true)) (.tmp 155)),
  o1 157 (.move (.tmp 156)),
  o2 158 (.move (.tmp 0)) 157 false,
  o2 159 (.index 9 (.tmp 158) (.const (.int .i64 3))) 157 false,
  o2 160 (.binOp .lss 5 (.tmp 159) (.const (.int .u8 128)) 5) 157 false,
  o1 161 (.pick (.tmp 157) (.const (.bool true)) (.tmp 160)),
  o1 162 (.move (.tmp 161)),
  o2 163 (.move (.tmp 0)) 162 false,
  o2 164 (.index 9 (.tmp 163) (.const (.int .i64 3))) 162 false,
  o2 165 (.binOp .lss 5 (.const (.int .u8 191)) (.tmp 164) 5) 162 false,
  o1 166 (.pick (.tmp 162) (.const (.bool true)) (.tmp 165))]
  []) (.cond (.tmp 166) (.seq (.reg []
  [o1 2 (.assign (.const (.bool false)))]) (.ret)) (.skip))) (.reg []
  [o1 167 (.move (.tmp 0)),
  o1 168 (.slice 9 (.tmp 167) (some (.const (.int .i64 4))) none none),
  o1 0 (.assign (.tmp 168))])) (.seq (.reg []
  [o1 2 (.assign (.const (.bool false)))]) (.ret))))))))))))))))))) (.seq (.reg []
  [o1 2 (.assign (.const (.bool true)))]) (.ret)))
def ms62_0 : List Nat := [0, 1, 2, 3, 4, 5, 6, 7, 8, 9, 10, 11, 12, 13, 14, 15, 16, 17, 18, 19, 20, 21, 22, 23, 24, 25, 26, 27, 28, 29, 30, 31, 32, 33, 34, 35, 36, 37, 38, 39, 40, 41, 42, 43, 44, 45, 46, 47, 48, 49, 50, 51, 52, 53, 54, 55, 56, 57, 58, 59, 60, 61, 62, 63, 64, 65, 66, 67, 68, 69, 70, 71, 72, 73, 74, 75, 76, 77, 78, 79, 80, 81, 82, 83, 84, 85, 86, 87, 88, 89, 90, 91, 92, 93, 94, 95, 96, 97, 98, 99, 100, 101, 102, 103, 104, 105, 106, 107, 108, 109, 110, 111, 112, 113, 114, 115, 116, 117, 118, 119, 120, 121, 122, 123, 124, 125, 126, 127, 128, 129, 130, 131, 132, 133, 134, 135, 136, 137, 138, 139, 140, 141, 142, 143, 144, 145, 146, 147, 148, 149, 150, 151, 152, 153, 154, 155, 156, 157, 158, 159, 160, 161, 162, 163, 164, 165, 166, 167, 168]
def ms62_1 : List Nat := [0, 1, 42, 43, 44, 45, 46, 47, 48, 49, 50, 51, 52, 53, 54, 55, 56, 57, 58, 59, 60, 61, 62, 63, 64]
theorem ls62 : Tryd.f62.body.map (strip Tryd.prog impCodC) = some lc62 := by kernel_rfl
theorem lcall62 : LC 62 169 lc62 [.tmp 2] := LC.of Tryd.func62 (by kernel_rfl) ls62 (by kernel_rfl) (by kernel_rfl)
/-- slices.ContainsFunc[[]string,string] -/
def lc63 : LCode := .seq (.reg []
  [o1 4 (.assign (.const (.bool false)))]) (.seq (.reg []
  [o1 5 (.move (.tmp 0)),
  o1 6 (.move (.tmp 1)),
  o1 7 (.call ⟨.value (.func 78), #[.tmp 5, .tmp 6], #[23, 37]⟩),
  o1 8 (.binOp .geq 3 (.tmp 7) (.const (.int .i64 0)) 3),
  o1 4 (.assign (.tmp 8))]) (.ret))
theorem ls63 : Tryd.f63.body.map (strip Tryd.prog impCodC) = some lc63 := by kernel_rfl
theorem lcall63 : LC 63 9 lc63 [.tmp 4] := LC.of Tryd.func63 (by kernel_rfl) ls63 (by kernel_rfl) (by kernel_rfl)
/-- (escutcheon/page.Value).form$1 -/
def lc64 : LCode := .seq (.reg []
  [o1 2 (.assign (.const (.bool false)))]) (.seq (.reg []
  [o1 3 (.move (.tmp 0)),
  o1 4 (.call ⟨.value (.func 62), #[.tmp 3], #[9]⟩),
  o1 5 (.unOp .not 4 (.tmp 4)),
  o1 2 (.assign (.tmp 5))]) (.ret))
theorem ls64 : Tryd.f64.body.map (strip Tryd.prog impCodC) = some lc64 := by kernel_rfl
theorem lcall64 : LC 64 6 lc64 [.tmp 2] := LC.of Tryd.func64 (by kernel_rfl) ls64 (by kernel_rfl) (by kernel_rfl)
/-- slices.Contains[[]string,string] -/
def lc65 : LCode := .seq (.reg []
  [o1 4 (.assign (.const (.bool false)))]) (.seq (.reg []
  [o1 5 (.move (.tmp 0)),
  o1 6 (.move (.tmp 1)),
  o1 7 (.call ⟨.value (.func 22), #[.tmp 5, .tmp 6], #[23, 9]⟩),
  o1 8 (.binOp .geq 3 (.tmp 7) (.const (.int .i64 0)) 3),
  o1 4 (.assign (.tmp 8))]) (.ret))
theorem ls65 : Tryd.f65.body.map (strip Tryd.prog impCodC) = some lc65 := by kernel_rfl
theorem lcall65 : LC 65 9 lc65 [.tmp 4] := LC.of Tryd.func65 (by kernel_rfl) ls65 (by kernel_rfl) (by kernel_rfl)
/-- slices.Index[[]string,string] -/
def lc22 : LCode := .seq (.reg []
  [o1 4 (.assign (.const (.int .i64 0)))]) (.seq (.seq (.reg []
  [o1 6 (.move (.tmp 0)),
  o1 7 (.call ⟨.builtin .len, #[.tmp 6], #[23]⟩),
  o1 8 (.move (.const (.int .i64 0)))]) (.block 0 (.loop (.seq (.reg []
  [o1 9 (.binOp .lss 3 (.tmp 8) (.tmp 7) 3)]) (.seq (.cond (.tmp 9) (.skip) (.exit 0)) (.seq (.block 1 (.seq (.reg []
  [o1 10 (.move (.tmp 8)),
  o1 5 (.assign (.tmp 10))]) (.seq (.reg []
  [o1 11 (.move (.tmp 1)),
  o1 12 (.move (.tmp 0)),
  o1 13 (.move (.tmp 5)),
  o1 14 (.indexAddr 23 (.tmp 12) (.tmp 13)),
  o1 15 (.load 9 (.tmp 14)),
  o1 16 (.binOp .eql 9 (.tmp 11) (.tmp 15) 9)]) (.cond (.tmp 16) (.seq (.reg []
  [o1 17 (.move (.tmp 5)),
  o1 4 (.assign (.tmp 17))]) (.ret)) (.skip))))) (.reg []
  [o1 18 (.binOp .add 3 (.tmp 8) (.const (.int .i64 1)) 3),
  o1 8 (.move (.tmp 18))]))))))) (.seq (.reg []
  [o1 4 (.assign (.const (.int .i64 (-1))))]) (.ret)))
def ms22_0 : List Nat := [2, 3, 4, 5, 6, 8, 9, 10, 11, 12, 13, 14, 15, 16, 17, 18]
theorem ls22 : Tryd.f22.body.map (strip Tryd.prog impCodC) = some lc22 := by kernel_rfl
theorem lcall22 : LC 22 19 lc22 [.tmp 4] := LC.of Tryd.func22 (by kernel_rfl) ls22 (by kernel_rfl) (by kernel_rfl)
/-- unicode/utf8.word[string] -/
def lc77 : LCode := .seq (.reg []
  [o1 2 (.assign (.const (.int .u64 0)))]) (.seq (.cond (.const (.bool false)) (.seq (.reg [o1 3 (.move (.tmp 0)),
  o1 4 (.index 9 (.tmp 3) (.const (.int .i64 0))),
  o1 5 (.convert 5 12 (.tmp 4)),
  o1 6 (.move (.tmp 0)),
  o1 7 (.index 9 (.tmp 6) (.const (.int .i64 1))),
  o1 8 (.convert 5 12 (.tmp 7)),
  o1 9 (.binOp .shl 12 (.tmp 8) (.const (.int .u64 8)) 115),
  o1 10 (.binOp .or 12 (.tmp 5) (.tmp 9) 12),
  o1 11 (.move (.tmp 0)),
  o1 12 (.index 9 (.tmp 11) (.const (.int .i64 2))),
  o1 13 (.convert 5 12 (.tmp 12)),
  o1 14 (.binOp .shl 12 (.tmp 13) (.const (.int .u64 16)) 115),
  o1 15 (.binOp .or 12 (.tmp 10) (.tmp 14) 12),
  o1 16 (.move (.tmp 0)),
  o1 17 (.index 9 (.tmp 16) (.const (.int .i64 3))),
  o1 18 (.convert 5 12 (.tmp 17)),
  o1 19 (.binOp .shl 12 (.tmp 18) (.const (.int .u64 24)) 115),
  o1 20 (.binOp .or 12 (.tmp 15) (.tmp 19) 12),
  o1 2 (.assign (.tmp 20))]
  []) (.ret)) (.skip)) (.seq (.reg [o1 21 (.move (.tmp 0)),
  o1 22 (.index 9 (.tmp 21) (.const (.int .i64 0))),
  o1 23 (.convert 5 105 (.tmp 22)),
  o1 24 (.move (.tmp 0)),
  o1 25 (.index 9 (.tmp 24) (.const (.int .i64 1))),
  o1 26 (.convert 5 105 (.tmp 25)),
  o1 27 (.binOp .shl 105 (.tmp 26) (.const (.int .u64 8)) 115),
  o1 28 (.binOp .or 105 (.tmp 23) (.tmp 27) 105),
  o1 29 (.move (.tmp 0)),
  o1 30 (.index 9 (.tmp 29) (.const (.int .i64 2))),
  o1 31 (.convert 5 105 (.tmp 30)),
  o1 32 (.binOp .shl 105 (.tmp 31) (.const (.int .u64 16)) 115),
  o1 33 (.binOp .or 105 (.tmp 28) (.tmp 32) 105),
  o1 34 (.move (.tmp 0)),
  o1 35 (.index 9 (.tmp 34) (.const (.int .i64 3))),
  o1 36 (.convert 5 105 (.tmp 35)),
  o1 37 (.binOp .shl 105 (.tmp 36) (.const (.int .u64 24)) 115),
  o1 38 (.binOp .or 105 (.tmp 33) (.tmp 37) 105),
  o1 39 (.move (.tmp 0)),
  o1 40 (.index 9 (.tmp 39) (.const (.int .i64 4))),
  o1 41 (.convert 5 105 (.tmp 40)),
  o1 42 (.binOp .shl 105 (.tmp 41) (.const (.int .u64 32)) 115),
  o1 43 (.binOp .or 105 (.tmp 38) (.tmp 42) 105),
  o1 44 (.move (.tmp 0)),
  o1 45 (.index 9 (.tmp 44) (.const (.int .i64 5))),
  o1 46 (.convert 5 105 (.tmp 45)),
  o1 47 (.binOp .shl 105 (.tmp 46) (.const (.int .u64 40)) 115),
  o1 48 (.binOp .or 105 (.tmp 43) (.tmp 47) 105),
  o1 49 (.move (.tmp 0)),
  o1 50 (.index 9 (.tmp 49) (.const (.int .i64 6))),
  o1 51 (.convert 5 105 (.tmp 50)),
  o1 52 (.binOp .shl 105 (.tmp 51) (.const (.int .u64 48)) 115),
  o1 53 (.binOp .or 105 (.tmp 48) (.tmp 52) 105),
  o1 54 (.move (.tmp 0)),
  o1 55 (.index 9 (.tmp 54) (.const (.int .i64 7))),
  o1 56 (.convert 5 105 (.tmp 55)),
  o1 57 (.binOp .shl 105 (.tmp 56) (.const (.int .u64 56)) 115),
  o1 58 (.binOp .or 105 (.tmp 53) (.tmp 57) 105),
  o1 2 (.assign (.tmp 58))]
  []) (.ret)))
theorem ls77 : Tryd.f77.body.map (strip Tryd.prog impCodC) = some lc77 := by kernel_rfl
theorem lcall77 : LC 77 59 lc77 [.tmp 2] := LC.of Tryd.func77 (by kernel_rfl) ls77 (by kernel_rfl) (by kernel_rfl)
/-- slices.IndexFunc[[]string,string] -/
def lc78 : LCode := .seq (.reg []
  [o1 4 (.assign (.const (.int .i64 0)))]) (.seq (.seq (.reg []
  [o1 6 (.move (.tmp 0)),
  o1 7 (.call ⟨.builtin .len, #[.tmp 6], #[23]⟩),
  o1 8 (.move (.const (.int .i64 0)))]) (.block 0 (.loop (.seq (.reg []
  [o1 9 (.binOp .lss 3 (.tmp 8) (.tmp 7) 3)]) (.seq (.cond (.tmp 9) (.skip) (.exit 0)) (.seq (.block 1 (.seq (.reg []
  [o1 10 (.move (.tmp 8)),
  o1 5 (.assign (.tmp 10))]) (.seq (.reg []
  [o1 11 (.move (.tmp 1)),
  o1 12 (.move (.tmp 0)),
  o1 13 (.move (.tmp 5)),
  o1 14 (.indexAddr 23 (.tmp 12) (.tmp 13)),
  o1 15 (.load 9 (.tmp 14)),
  o1 16 (.call ⟨.value (.tmp 11), #[.tmp 15], #[9]⟩)]) (.cond (.tmp 16) (.seq (.reg []
  [o1 17 (.move (.tmp 5)),
  o1 4 (.assign (.tmp 17))]) (.ret)) (.skip))))) (.reg []
  [o1 18 (.binOp .add 3 (.tmp 8) (.const (.int .i64 1)) 3),
  o1 8 (.move (.tmp 18))]))))))) (.seq (.reg []
  [o1 4 (.assign (.const (.int .i64 (-1))))]) (.ret)))
def ms78_0 : List Nat := [2, 3, 4, 5, 6, 8, 9, 10, 11, 12, 13, 14, 15, 16, 17, 18]
theorem ls78 : Tryd.f78.body.map (strip Tryd.prog impCodC) = some lc78 := by kernel_rfl
theorem lcall78 : LC 78 19 lc78 [.tmp 4] := LC.of Tryd.func78 (by kernel_rfl) ls78 (by kernel_rfl) (by kernel_rfl)
end Go.Abs.S
namespace Go.Abs
set_option linter.unusedVariables false
set_option linter.unusedSimpArgs false
variable {P : Program} {G : Glob}
/-- All that there is at a law's begin may only be read. -/
def lawSig (W : World) : Sig := ⟨fun _ _ => none, fun B => B < W.heap.size⟩
theorem ACall.law {n : FuncId} {args : List AV} {us : Array Value} {W : World} {b : Bool} (h : ACall P G true n args [] (.v (.bool b)) []) (hu : us.size = args.length) (ha : ∀ j, j < args.length → AR (lawSig W) W (args.getD j .any) (us.getD j undef)) (hg : ∀ g, AR (lawSig W) W (G g) (.pointer (some ⟨g, 0, none⟩))) :
    Calls P n us W fun e W' => e = .returned (.bool b) ∧ RowKit.Below W.heap.size W W' := by
  have rel : Rel G (lawSig W) [] W := ⟨fun b k l h => (by simp at h), fun b1 b2 k1 k2 l1 l2 h => (by simp at h), fun b k l h => (by simp at h), fun B h => h, fun b ver l h => (by cases h), hg, fun b ver l h => (by cases h)⟩
  refine (h.2 (lawSig W) W us hu ha rel).mono fun e W' ⟨u, he, σ', a1, a2, a3, _⟩ => ?_
  cases a1
  exact ⟨he, a3.os, a3.tape, a3.output, a3.size, fun B hB => a3.frame B hB noImg⟩
variable {H : Type} {enc : TypeId × Value → H} {w : World} {spare : Nat → Bool} {held : Bool}
theorem int_read {fuel : Nat} {k : IntKind} {t : TypeId} {cs : List Value} {x : DataW H × List MemPlace} (ht : P.underlying t = some (.int k)) (h : DataW.trod enc P w 0 spare held fuel t cs = some x) : ∃ y, cs = [.int k y] ∧ (Lit.int k y).wf = true := by
  obtain ⟨n, rfl, _, hw⟩ := DataW.trod_int ht h
  exact ⟨n, rfl, hw⟩
/-- What may be looked at in two ways. -/
def AvLe (x y : AV) : Prop := ∀ (σ : Sig) (w : World) (u : Value), AR σ w x u → AR σ w y u
theorem AvLe.refl (x : AV) : AvLe x x := fun _ _ _ h => h
theorem AvLe.nil : AvLe (.v (.slice none 0 0)) (.vsl 0 [] none) := fun σ w u h => by
  cases h
  exact .vsl0 _ _ (fun c hc => by cases hc)
theorem PCall.le {n : FuncId} {args args' : List AV} {r : AV} (h : PCall P G n args' r) (hl : args.length = args'.length) (hle : ∀ j, j < args.length → AvLe (args.getD j .any) (args'.getD j .any)) : PCall P G n args r :=
  fun H => ⟨(h H).1, fun σ w us h1 h2 rel => (h H).2 σ w us (h1.trans hl) (fun j hj => hle j (by omega) _ _ _ (h2 j (by omega))) rel⟩
end Go.Abs
namespace Go.Abs
set_option linter.unusedVariables false
variable {P : Program} {G : Glob} {t : List AV} {H : AHeap} {Q : APost}
/-- They meet here. -/
theorem lavc_joinS {a b : LCode} (ms : List Nat) {X : Type} (I : X → Prop) (live : X → List (Nat × AV)) (hp : X → AHeap)
    (h1 : lavc P G a t H fun e t' H' => match e with
      | .normal => ∃ x, I x ∧ ALe t' (putAll (blank t ms) (live x)) ∧ H' = hp x
      | e => Q e t' H') (h2 : ∀ x, I x → lavc P G b (putAll (blank t ms) (live x)) (hp x) Q) : lavc P G (.seq a b) t H Q := lavc_seq (lavc_join ms I live hp h1 h2)
/-- Arguments that may be looked at in two ways. -/
def AvLs : List AV → List AV → Prop
  | [], [] => True
  | x :: xs, y :: ys => AvLe x y ∧ AvLs xs ys
  | _, _ => False
theorem AvLs.length : ∀ {xs ys : List AV}, AvLs xs ys → xs.length = ys.length
  | [], [], _ => rfl
  | x :: xs, y :: ys, h => by simp [AvLs.length h.2]
  | [], _ :: _, h => h.elim
  | _ :: _, [], h => h.elim
theorem AvLs.get : ∀ {xs ys : List AV}, AvLs xs ys → ∀ j, j < xs.length → AvLe (xs.getD j .any) (ys.getD j .any)
  | [], [], _, j, hj => by simp at hj
  | x :: xs, y :: ys, h, 0, _ => by simpa using h.1
  | x :: xs, y :: ys, h, j + 1, hj => by simpa using AvLs.get h.2 j (by simpa using hj)
  | [], _ :: _, h, _, _ => h.elim
  | _ :: _, [], h, _, _ => h.elim
theorem PCall.les {n : FuncId} {args args' : List AV} {r : AV} (h : PCall P G n args' r) (hl : AvLs args args') : PCall P G n args r := h.le hl.length hl.get
theorem str_bytes (s : ByteArray) : strOf (bytesOf s) = s := by
  refine WideShapes.bytes_inj ?_
  unfold strOf bytesOf
  simp only [List.map_map]
  conv => rhs; rw [← List.map_id s.data.toList]
  refine List.map_congr_left fun x _ => ?_
  simp
theorem bytes_length (s : ByteArray) : (bytesOf s).length = s.size := by
  simp only [bytesOf, List.length_map, Array.length_toList]
  rfl
theorem bytes_u8 (s : ByteArray) : ∀ x ∈ bytesOf s, 0 ≤ x ∧ x ≤ 255 := by
  intro x hx
  simp only [bytesOf, List.mem_map] at hx
  obtain ⟨b, _, rfl⟩ := hx
  have := b.toNat_lt
  omega
end Go.Abs
namespace Go.Abs.S
attribute [local go_sem] lguard aopO aop aenv toAV tput aLoad aStore vcells aBin aNilI aUn aAlloc aBox aBuild aBSlice afill aConv isIntT aappZ aCap aArr aMM aMake aSlice bnd3 bnd aFldAddr aFld aIdxAddr aIdx aExt aLen aCopy aEq0 bAV aUb aapp aappQ agh acont List.getD_cons_zero List.getD_cons_succ List.set_cons_zero List.set_cons_succ List.getElem?_cons_zero List.getElem?_cons_succ List.length_cons List.length_nil List.map_cons List.map_nil ints_length if_true if_false Bool.false_eq_true true_and and_true eq_self ne_eq not_false_eq_true not_true_eq_false beq_self_eq_true Nat.zero_add Nat.add_zero Nat.mul_one Nat.zero_mul Int.toNat_natCast List.toList_toArray List.all_cons List.all_nil AV.one Value.oneCell' Bool.and_true Bool.true_and forall_const true_implies false_implies implies_true Option.map_some Option.map_none Option.isSome_some Option.isSome_none imp_self rdP_flat rdP_row splice_one ints_set ints_get List.append_nil List.cons_append List.nil_append List.getElem?_toArray List.drop_zero ints_drop ints_take List.take_of_length_le splice_all ints_one Option.some.injEq Option.getD_some List.length_replicate zArr List.map_replicate rep_ints splice_intsR List.length_set List.length_append List.flatten_replicate_singleton rep_slice rep_string rep_bool rep_iface List.replicate_zero if_pos if_neg List.mapM_cons List.mapM_nil Option.pure_def Option.bind_eq_bind Option.bind_some Bool.true_eq_false Bool.not_false Bool.not_true get_concat set_concat
open Go.Proofs
set_option linter.unusedVariables false
set_option linter.unusedSimpArgs false
set_option maxRecDepth 100000
set_option maxHeartbeats 8000000
/-- A text's byte. -/
def bq (s : ByteArray) (i : Nat) : Int := ((s.data.toList.getD i 0).toNat : Int)
theorem bq_byte (s : ByteArray) (i : Nat) : 0 ≤ bq s i ∧ bq s i ≤ 255 := by
  unfold bq
  have := (s.data.toList.getD i 0).toNat_lt
  omega
def wb (t : ByteArray) (k : Nat) : Int := IntKind.u64.wrap ((t.data.toList.getD k 0).toNat : Int)
/-- Eight bytes as a number. -/
def wordP (t : ByteArray) : Int :=
  ibits .or .u64 (ibits .or .u64 (ibits .or .u64 (ibits .or .u64 (ibits .or .u64 (ibits .or .u64 (ibits .or .u64 (wb t 0) (shlI .u64 (wb t 1) 8)) (shlI .u64 (wb t 2) 16)) (shlI .u64 (wb t 3) 24)) (shlI .u64 (wb t 4) 32)) (shlI .u64 (wb t 5) 40)) (shlI .u64 (wb t 6) 48)) (shlI .u64 (wb t 7) 56)
theorem word_p (t : ByteArray) (h : 8 ≤ t.size) : PCall Tryd.prog glob 77 [.v (.string t)] (.v (.int .u64 (wordP t))) := by
  refine PCall.of ctx.nr nrs (NR.v _) ?_
  refine lcall77 (by simp) 0 (Nat.le_refl _) ?_
  unfold lc77
  refine I1 tt ⟨?_⟩
  refine G1 F4 tt tt tt tt ⟨?_⟩
  refine R1 tt ⟨?_⟩
  exact end0 (NR.v _) rfl
/-- The rest behind so many bytes. -/
abbrev rst (t : ByteArray) (n : Nat) : ByteArray := t.extract n t.size
theorem rst_size (t : ByteArray) (n : Nat) : (rst t n).size = t.size - n := by simp
def c8 (t : ByteArray) : Bool := ibits .and .u64 (wordP t) 9259542123273814144 == 0
def c16 (t : ByteArray) : Bool := ibits .and .u64 (ibits .or .u64 (wordP t) (wordP (rst t 8))) 9259542123273814144 == 0
def c32 (t : ByteArray) : Bool := ibits .and .u64 (ibits .or .u64 (ibits .or .u64 (wordP t) (wordP (rst t 8))) (ibits .or .u64 (wordP (rst t 16)) (wordP (rst t 24)))) 9259542123273814144 == 0
def skipL : Nat → ByteArray → ByteArray
  | 0, t => t
  | k + 1, t => if 32 < t.size ∧ c32 t = true then skipL k (rst t 32) else t
def skipB (t : ByteArray) : ByteArray := if 16 < t.size ∧ c16 t = true then skipL t.size (rst t 16) else t
def skipA (t : ByteArray) : ByteArray := if 8 < t.size ∧ c8 t = true then skipB (rst t 8) else t
theorem skipL_size : ∀ (k : Nat) (t : ByteArray), (skipL k t).size ≤ t.size
  | 0, t => Nat.le_refl _
  | k + 1, t => by
    unfold skipL
    split
    · have := skipL_size k (rst t 32)
      rw [rst_size] at this
      omega
    · exact Nat.le_refl _
theorem skipA_size (t : ByteArray) : (skipA t).size ≤ t.size := by
  unfold skipA
  split
  · unfold skipB
    have h := rst_size t 8
    split
    · have := skipL_size (rst t 8).size (rst (rst t 8) 16)
      have h2 := rst_size (rst t 8) 16
      omega
    · omega
  · exact Nat.le_refl _
/-- What the first byte tells: how many there are, and between which the second one lies. -/
def fstB (t : ByteArray) : Int := lay_unicode_utf8_first.getD (bq t 0).toNat 0
def cntB (t : ByteArray) : Int := IntKind.i64.wrap (ibits .and .u8 (fstB t) 7)
def loB (t : ByteArray) : Int := lay_unicode_utf8_acceptRanges.getD ((fstB t).toNat / 16 * 2) 0
def hiB (t : ByteArray) : Int := lay_unicode_utf8_acceptRanges.getD ((fstB t).toNat / 16 * 2 + 1) 0
def stepN (t : ByteArray) : Option Nat :=
  if cntB t = 2 then (if t.size < 2 ∨ bq t 1 < loB t ∨ hiB t < bq t 1 then none else some 2)
  else if cntB t = 3 then (if t.size < 3 ∨ bq t 1 < loB t ∨ hiB t < bq t 1 ∨ bq t 2 < 128 ∨ 191 < bq t 2 then none else some 3)
  else if cntB t = 4 then (if t.size < 4 ∨ bq t 1 < loB t ∨ hiB t < bq t 1 ∨ bq t 2 < 128 ∨ 191 < bq t 2 ∨ bq t 3 < 128 ∨ 191 < bq t 3 then none else some 4)
  else none
def vsF : Nat → ByteArray → Bool
  | 0, _ => true
  | k + 1, t => if t.size = 0 then true else if bq t 0 < 128 then vsF k (skipA (rst t 1)) else match stepN t with
    | none => false
    | some n => vsF k (rst t n)
/-- Is a text UTF-8? -/
def validP (s : ByteArray) : Bool := vsF (s.size + 1) s
theorem vsF_end (k : Nat) (t : ByteArray) (h : t.size = 0) : vsF (k + 1) t = true := by
  unfold vsF
  rw [if_pos h]
theorem vsF_ascii (k : Nat) (t : ByteArray) (h : 0 < t.size) (h2 : bq t 0 < 128) : vsF (k + 1) t = vsF k (skipA (rst t 1)) := by
  rw [vsF, if_neg (by omega), if_pos h2]
theorem vsF_bad (k : Nat) (t : ByteArray) (h : 0 < t.size) (h2 : ¬ bq t 0 < 128) (h3 : stepN t = none) : vsF (k + 1) t = false := by
  rw [vsF, if_neg (by omega), if_neg h2, h3]
theorem vsF_some (k n : Nat) (t : ByteArray) (h : 0 < t.size) (h2 : ¬ bq t 0 < 128) (h3 : stepN t = some n) : vsF (k + 1) t = vsF k (rst t n) := by
  rw [vsF, if_neg (by omega), if_neg h2, h3]
theorem first_in : ∀ b : Nat, b < 256 → 0 ≤ lay_unicode_utf8_first.getD b 0 ∧ lay_unicode_utf8_first.getD b 0 ≤ 255 := by decide +kernel
theorem acc_in : ∀ p : Nat, p < 16 → (lay_unicode_utf8_acceptRanges.drop (p * 2)).take 2 = [lay_unicode_utf8_acceptRanges.getD (p * 2) 0, lay_unicode_utf8_acceptRanges.getD (p * 2 + 1) 0] := by decide +kernel
theorem valid_p (s : ByteArray) (hs : s.size ≤ 9223372036854775807) : PCall Tryd.prog glob 62 [.v (.string s)] (.v (.bool (validP s))) := by
  obtain ⟨V, hV⟩ : ∃ V, validP s = V := ⟨_, rfl⟩
  rw [hV]
  refine PCall.of ctx.nr nrs (NR.v _) ?_
  refine lcall62 (by simp) 0 (Nat.le_refl _) ?_
  unfold lc62
  refine I1 tt ⟨?_⟩
  refine G1 F4 tt tt tt tt ⟨?_⟩
  refine lavc_loopM ms62_0 (fun m (x : Nat × ByteArray × AHeap) => m = x.1 ∧ x.2.1.size < x.1 ∧ x.2.1.size ≤ 9223372036854775807 ∧ vsF x.1 x.2.1 = V) (fun x => [(0, .v (.string x.2.1))]) (fun x => x.2.2) (s.size + 1) (s.size + 1, s, []) ⟨rfl, Nat.lt_succ_self _, hs, hV⟩ ?_ rfl ?_
  · try unfold ms62_0
    exact A0 tt
  rintro m ⟨k, t, gg⟩ ⟨hmk, hlt, hts, hinv⟩
  simp only at hmk hlt hts hinv ⊢
  try unfold ms62_0
  refine M1 tt ⟨?_⟩
  obtain ⟨k, rfl⟩ : ∃ k', k = k' + 1 := ⟨k - 1, by omega⟩
  refine G1 F1 tt tt tt tt ⟨?_⟩
  refine cnd rfl (fun hc => ?_) (fun hc => ?_)
  · have hb := bq_byte t 0
    have ht0 : 0 < t.size := by omega
    obtain ⟨b, hb0⟩ : ∃ b, bq t 0 = b := ⟨_, rfl⟩
    have hsb : ((t.data.toList.getD 0 0).toNat : Int) = b := hb0
    rw [hb0] at hb
    by_cases h128 : b < 128
    · have q1 : decide (b < 128) = true := by rw [decide_eq_true_eq]; omega
      rw [vsF_ascii k t ht0 (by rw [hb0]; exact h128)] at hinv
      have hus := rst_size t 1
      obtain ⟨u, hu⟩ : ∃ u, t.extract 1 t.size = u := ⟨_, rfl⟩
      have hu' : rst t 1 = u := hu
      rw [hu'] at hus hinv
      have hsk := skipA_size u
      have next : ∀ v, skipA u = v → v.size < k ∧ v.size ≤ 9223372036854775807 ∧ vsF k v = V := fun v hv => by
        rw [hv] at hsk hinv
        exact ⟨by omega, by omega, hinv⟩
      have w8 := fun h => word_p u h
      by_cases g8 : 8 < u.size
      · have d8 : decide ((u.size : Int) > 8) = true := by rw [decide_eq_true_eq]; omega
        have w8 := w8 (by omega)
        by_cases k8 : c8 u = true
        · have e8 : (ibits .and .u64 (wordP u) 9259542123273814144 == 0) = true := k8
          have hu2s := rst_size u 8
          obtain ⟨u2, hu2⟩ : ∃ u2, u.extract 8 u.size = u2 := ⟨_, rfl⟩
          have hu2' : rst u 8 = u2 := hu2
          rw [hu2'] at hu2s
          have hA : skipA u = skipB u2 := by unfold skipA; rw [if_pos ⟨g8, k8⟩, hu2']
          by_cases g16 : 16 < u2.size
          · have d16 : decide ((u2.size : Int) > 16) = true := by rw [decide_eq_true_eq]; omega
            have w16 := word_p u2 (by omega)
            have hu3s := rst_size u2 8
            have w17 := word_p (u2.extract 8 u2.size) (by rw [hu3s]; omega)
            by_cases k16 : c16 u2 = true
            · have e16 : (ibits .and .u64 (ibits .or .u64 (wordP u2) (wordP (u2.extract 8 u2.size))) 9259542123273814144 == 0) = true := k16
              have hB : skipB u2 = skipL u2.size (rst u2 16) := by unfold skipB; rw [if_pos ⟨g16, k16⟩]
              have hu4s := rst_size u2 16
              obtain ⟨u4, hu4⟩ : ∃ x, u2.extract 16 u2.size = x := ⟨_, rfl⟩
              have hu4' : rst u2 16 = u4 := hu4
              rw [hu4'] at hu4s hB
              refine G1 F4 (an hsb (an q1 (an hu (an d8 (an e8 (an hu2 (an d16 (an e16 (an hu4 tt))))))))) (an w8.go (an w16.go (an w17.go tt))) tt tt ⟨?_⟩
              refine lavc_loopM ms62_1 (fun m (x : Nat × ByteArray) => m = x.1 ∧ x.2.size ≤ 32 * x.1 ∧ x.2.size ≤ 9223372036854775807 ∧ skipL x.1 x.2 = skipA u) (fun x => [(0, .v (.string x.2))]) (fun x => gg) u2.size (u2.size, u4) ⟨rfl, by show u4.size ≤ 32 * u2.size; omega, by show u4.size ≤ 9223372036854775807; omega, by rw [hA, hB]⟩ ?_ rfl ?_
              · try unfold ms62_1
                exact A0 tt
              rintro m1 ⟨j, y⟩ ⟨hmj, hy1, hy2, hy3⟩
              simp only at hmj hy1 hy2 hy3 ⊢
              try unfold ms62_1
              refine M1 tt ⟨?_⟩
              by_cases g32 : 32 < y.size
              · have d32 : decide ((y.size : Int) > 32) = true := by rw [decide_eq_true_eq]; omega
                obtain ⟨j, rfl⟩ : ∃ j', j = j' + 1 := ⟨j - 1, by omega⟩
                have p0 := word_p y (by omega)
                have p1 := word_p (y.extract 8 y.size) (by have h := rst_size y 8; exact (by omega : 8 ≤ (rst y 8).size))
                have p2 := word_p (y.extract 16 y.size) (by have h := rst_size y 16; exact (by omega : 8 ≤ (rst y 16).size))
                have p3 := word_p (y.extract 24 y.size) (by have h := rst_size y 24; exact (by omega : 8 ≤ (rst y 24).size))
                by_cases k32 : c32 y = true
                · have e32 : (ibits .and .u64 (ibits .or .u64 (ibits .or .u64 (wordP y) (wordP (y.extract 8 y.size))) (ibits .or .u64 (wordP (y.extract 16 y.size)) (wordP (y.extract 24 y.size)))) 9259542123273814144 == 0) = true := k32
                  rw [skipL, if_pos ⟨g32, k32⟩] at hy3
                  have hzs := rst_size y 32
                  refine G1 F4 (an d32 (an e32 tt)) (an p0.go (an p1.go (an p2.go (an p3.go tt)))) tt tt ⟨?_⟩
                  refine ⟨j, (j, rst y 32), by omega, ⟨rfl, by show (rst y 32).size ≤ 32 * j; omega, by show (rst y 32).size ≤ 9223372036854775807; omega, hy3⟩, ?_, (by first | rfl | trivial)⟩
                  try unfold ms62_1
                  exact A0 tt
                · have e32 : (ibits .and .u64 (ibits .or .u64 (ibits .or .u64 (wordP y) (wordP (y.extract 8 y.size))) (ibits .or .u64 (wordP (y.extract 16 y.size)) (wordP (y.extract 24 y.size)))) 9259542123273814144 == 0) = false := by simpa [c32] using k32
                  rw [skipL, if_neg (by intro h; exact k32 h.2)] at hy3
                  refine G1 F4 (an d32 (an e32 tt)) (an p0.go (an p1.go (an p2.go (an p3.go tt)))) tt tt ⟨?_⟩
                  obtain ⟨n1, n2, n3⟩ := next y hy3.symm
                  refine ⟨k, (k, y, gg), by omega, ⟨rfl, n1, n2, n3⟩, ?_, rfl⟩
                  try unfold ms62_0
                  exact A0 tt
              · have d32 : decide ((y.size : Int) > 32) = false := by rw [decide_eq_false_iff_not]; omega
                have hy4 : y = skipA u := by
                  rw [← hy3]
                  cases j with
                  | zero => rfl
                  | succ j => rw [skipL, if_neg (by intro h; exact g32 h.1)]
                refine G1 F4 (an d32 tt) tt tt tt ⟨?_⟩
                obtain ⟨n1, n2, n3⟩ := next y hy4.symm
                refine ⟨k, (k, y, gg), by omega, ⟨rfl, n1, n2, n3⟩, ?_, rfl⟩
                try unfold ms62_0
                exact A0 tt
            · have e16 : (ibits .and .u64 (ibits .or .u64 (wordP u2) (wordP (u2.extract 8 u2.size))) 9259542123273814144 == 0) = false := by simpa [c16] using k16
              have hB : skipB u2 = u2 := by unfold skipB; rw [if_neg (by intro h; exact k16 h.2)]
              refine G1 F4 (an hsb (an q1 (an hu (an d8 (an e8 (an hu2 (an d16 (an e16 tt)))))))) (an w8.go (an w16.go (an w17.go tt))) tt tt ⟨?_⟩
              obtain ⟨n1, n2, n3⟩ := next u2 (hA.trans hB)
              refine ⟨k, (k, u2, gg), by omega, ⟨rfl, n1, n2, n3⟩, ?_, rfl⟩
              try unfold ms62_0
              exact A0 tt
          · have d16 : decide ((u2.size : Int) > 16) = false := by rw [decide_eq_false_iff_not]; omega
            have hB : skipB u2 = u2 := by unfold skipB; rw [if_neg (by intro h; exact g16 h.1)]
            refine G1 F4 (an hsb (an q1 (an hu (an d8 (an e8 (an hu2 (an d16 tt))))))) (an w8.go tt) tt tt ⟨?_⟩
            obtain ⟨n1, n2, n3⟩ := next u2 (hA.trans hB)
            refine ⟨k, (k, u2, gg), by omega, ⟨rfl, n1, n2, n3⟩, ?_, rfl⟩
            try unfold ms62_0
            exact A0 tt
        · have e8 : (ibits .and .u64 (wordP u) 9259542123273814144 == 0) = false := by simpa [c8] using k8
          have hA : skipA u = u := by unfold skipA; rw [if_neg (by intro h; exact k8 h.2)]
          refine G1 F4 (an hsb (an q1 (an hu (an d8 (an e8 tt))))) (an w8.go tt) tt tt ⟨?_⟩
          obtain ⟨n1, n2, n3⟩ := next u hA
          refine ⟨k, (k, u, gg), by omega, ⟨rfl, n1, n2, n3⟩, ?_, rfl⟩
          try unfold ms62_0
          exact A0 tt
      · have d8 : decide ((u.size : Int) > 8) = false := by rw [decide_eq_false_iff_not]; omega
        have hA : skipA u = u := by unfold skipA; rw [if_neg (by intro h; exact g8 h.1)]
        refine G1 F4 (an hsb (an q1 (an hu (an d8 tt)))) tt tt tt ⟨?_⟩
        obtain ⟨n1, n2, n3⟩ := next u hA
        refine ⟨k, (k, u, gg), by omega, ⟨rfl, n1, n2, n3⟩, ?_, rfl⟩
        try unfold ms62_0
        exact A0 tt
    · have q1 : decide (b < 128) = false := by rw [decide_eq_false_iff_not]; omega
      have hnb : ¬ bq t 0 < 128 := by rw [hb0]; exact h128
      have hfi := first_in b.toNat (by omega)
      obtain ⟨f, hf⟩ : ∃ f : Nat, lay_unicode_utf8_first.getD b.toNat 0 = (f : Int) := ⟨(lay_unicode_utf8_first.getD b.toNat 0).toNat, by omega⟩
      have hfst : fstB t = (f : Int) := by unfold fstB; rw [hb0, hf]
      rw [hf] at hfi
      have hlen : lay_unicode_utf8_first.length = 256 := by decide +kernel
      have hlen2 : lay_unicode_utf8_acceptRanges.length = 32 := rfl
      obtain ⟨p, hp⟩ : ∃ p, f / 16 = p := ⟨_, rfl⟩
      have sh : shrI .u8 (f : Int) 4 = (p : Int) := by rw [shrI_le _ _ _ (by decide), ← hp]; rfl
      have hpl : p < 16 := by omega
      have hac := acc_in p hpl
      have hlo0 : loB t = lay_unicode_utf8_acceptRanges.getD (p * 2) 0 := by unfold loB; rw [hfst, ← hp]; rfl
      have hhi0 : hiB t = lay_unicode_utf8_acceptRanges.getD (p * 2 + 1) 0 := by unfold hiB; rw [hfst, ← hp]; rfl
      obtain ⟨lo, hlo⟩ : ∃ v, lay_unicode_utf8_acceptRanges.getD (p * 2) 0 = v := ⟨_, rfl⟩
      obtain ⟨hi, hhi⟩ : ∃ v, lay_unicode_utf8_acceptRanges.getD (p * 2 + 1) 0 = v := ⟨_, rfl⟩
      rw [hlo] at hlo0
      rw [hhi] at hhi0
      rw [hlo, hhi] at hac
      obtain ⟨n, hn⟩ : ∃ n, IntKind.i64.wrap (ibits .and .u8 (f : Int) 7) = n := ⟨_, rfl⟩
      have hcn : cntB t = n := by unfold cntB; rw [hfst, hn]
      obtain ⟨b1, hb1⟩ : ∃ v, bq t 1 = v := ⟨_, rfl⟩
      obtain ⟨b2, hb2⟩ : ∃ v, bq t 2 = v := ⟨_, rfl⟩
      obtain ⟨b3, hb3⟩ : ∃ v, bq t 3 = v := ⟨_, rfl⟩
      have hs1 : ((t.data.toList.getD 1 0).toNat : Int) = b1 := hb1
      have hs2 : ((t.data.toList.getD 2 0).toNat : Int) = b2 := hb2
      have hs3 : ((t.data.toList.getD 3 0).toNat : Int) = b3 := hb3
      have bad : stepN t = none → V = false := fun h => by rw [← hinv, vsF_bad k t ht0 hnb h]
      have good : ∀ q, 0 < q → stepN t = some q → (rst t q).size < k ∧ (rst t q).size ≤ 9223372036854775807 ∧ vsF k (rst t q) = V := fun q hq h => by
        rw [vsF_some k q t ht0 hnb h] at hinv
        have := rst_size t q
        exact ⟨by omega, by omega, hinv⟩
      repeat (first
        | (with_reducible refine lops_step fun K hK => ?_; simp (disch := first | exact dch | fail) only [go_sem, Nat.reduceAdd, Nat.reduceSub, reduceIte, Nat.reduceEqDiff, Int.reduceToNat, Int.reduceBEq, Int.reduceBNe, hsb, q1, hlen, hf, sh, hlen2, hac, hn, get_concat, set_concat]; (try (first | (refine And.intro (fun _ => ?_) (fun h => absurd h (by decide))) | (refine And.intro (fun h => absurd h (by decide)) (fun _ => ?_)))); (repeat (with_reducible refine And.intro acl ?_)); (first | (refine hK _ _ ?_) | (refine ⟨_, rfl, hK _ _ ?_⟩) | (refine Or.inl (hK _ _ ?_))); clear hK K)
        | (with_reducible refine lops_nil ?_)
        | (with_reducible first | refine lavc_reg ?_ | refine lavc_seq ?_ | refine lavc_block ?_ | refine lavc_skip ?_ | refine lavc_exit ?_ | refine lavc_ret ?_ | refine lavcR_round ?_)
        | (refine lavc_cond rfl (fun _ => ?_) (fun hc => absurd hc (by decide)))
        | (refine lavc_cond rfl (fun hc => absurd hc (by decide)) (fun _ => ?_))
        | (simp only [↓reduceIte, Nat.reduceEqDiff, reduceCtorEq]))
      refine lavc_cond rfl (fun hc => ?_) (fun hc => ?_)
      · have n2 : n = 2 := by simpa using hc
        by_cases s0 : t.size < 2
        · have d0 : decide ((t.size : Int) < 2) = true := by rw [decide_eq_true_eq]; omega
          have hst : stepN t = none := by unfold stepN; rw [hcn, if_pos n2, hlo0, hhi0, hb1, if_pos (by omega)]
          rw [bad hst]
          refine G1 F4 (an d0 (an hs1 (an hs2 (an hs3 tt)))) tt tt tt ⟨?_⟩
          refine R1 tt ⟨?_⟩
          exact end0 (NR.v _) rfl
        have d0 : decide ((t.size : Int) < 2) = false := by rw [decide_eq_false_iff_not]; omega
        by_cases s1 : b1 < lo
        · have d1 : decide (b1 < lo) = true := by rw [decide_eq_true_eq]; omega
          have hst : stepN t = none := by unfold stepN; rw [hcn, if_pos n2, hlo0, hhi0, hb1, if_pos (by omega)]
          rw [bad hst]
          refine G1 F4 (an d0 (an d1 (an hs1 (an hs2 (an hs3 tt))))) tt tt tt ⟨?_⟩
          refine R1 tt ⟨?_⟩
          exact end0 (NR.v _) rfl
        have d1 : decide (b1 < lo) = false := by rw [decide_eq_false_iff_not]; omega
        by_cases s2 : hi < b1
        · have d2 : decide (hi < b1) = true := by rw [decide_eq_true_eq]; omega
          have hst : stepN t = none := by unfold stepN; rw [hcn, if_pos n2, hlo0, hhi0, hb1, if_pos (by omega)]
          rw [bad hst]
          refine G1 F4 (an d0 (an d1 (an d2 (an hs1 (an hs2 (an hs3 tt)))))) tt tt tt ⟨?_⟩
          refine R1 tt ⟨?_⟩
          exact end0 (NR.v _) rfl
        have d2 : decide (hi < b1) = false := by rw [decide_eq_false_iff_not]; omega
        have hst : stepN t = some 2 := by unfold stepN; rw [hcn, if_pos n2, hlo0, hhi0, hb1, if_neg (by omega)]
        obtain ⟨m1, m2, m3⟩ := good 2 (by decide) hst
        refine G1 F4 (an d0 (an d1 (an d2 (an hs1 (an hs2 (an hs3 tt)))))) tt tt tt ⟨?_⟩
        refine ⟨k, (k, rst t 2, gg ++ [⟨ints .u8 [lo, hi], 0, true, 113⟩]), by omega, ⟨rfl, m1, m2, m3⟩, ?_, rfl⟩
        try unfold ms62_0
        exact A0 tt
      have n2 : n ≠ 2 := by simpa using hc
      refine G1 F4 (an hs1 (an hs2 (an hs3 tt))) tt tt tt ⟨?_⟩
      refine lavc_cond rfl (fun hc => ?_) (fun hc => ?_)
      · have n3 : n = 3 := by simpa using hc
        by_cases s0 : t.size < 3
        · have d0 : decide ((t.size : Int) < 3) = true := by rw [decide_eq_true_eq]; omega
          have hst : stepN t = none := by unfold stepN; rw [hcn, if_neg n2, if_pos n3, hlo0, hhi0, hb1, hb2, if_pos (by omega)]
          rw [bad hst]
          refine G1 F4 (an d0 (an hs1 (an hs2 (an hs3 tt)))) tt tt tt ⟨?_⟩
          refine R1 tt ⟨?_⟩
          exact end0 (NR.v _) rfl
        have d0 : decide ((t.size : Int) < 3) = false := by rw [decide_eq_false_iff_not]; omega
        by_cases s1 : b1 < lo
        · have d1 : decide (b1 < lo) = true := by rw [decide_eq_true_eq]; omega
          have hst : stepN t = none := by unfold stepN; rw [hcn, if_neg n2, if_pos n3, hlo0, hhi0, hb1, hb2, if_pos (by omega)]
          rw [bad hst]
          refine G1 F4 (an d0 (an d1 (an hs1 (an hs2 (an hs3 tt))))) tt tt tt ⟨?_⟩
          refine R1 tt ⟨?_⟩
          exact end0 (NR.v _) rfl
        have d1 : decide (b1 < lo) = false := by rw [decide_eq_false_iff_not]; omega
        by_cases s2 : hi < b1
        · have d2 : decide (hi < b1) = true := by rw [decide_eq_true_eq]; omega
          have hst : stepN t = none := by unfold stepN; rw [hcn, if_neg n2, if_pos n3, hlo0, hhi0, hb1, hb2, if_pos (by omega)]
          rw [bad hst]
          refine G1 F4 (an d0 (an d1 (an d2 (an hs1 (an hs2 (an hs3 tt)))))) tt tt tt ⟨?_⟩
          refine R1 tt ⟨?_⟩
          exact end0 (NR.v _) rfl
        have d2 : decide (hi < b1) = false := by rw [decide_eq_false_iff_not]; omega
        by_cases s3 : b2 < 128
        · have d3 : decide (b2 < 128) = true := by rw [decide_eq_true_eq]; omega
          have hst : stepN t = none := by unfold stepN; rw [hcn, if_neg n2, if_pos n3, hlo0, hhi0, hb1, hb2, if_pos (by omega)]
          rw [bad hst]
          refine G1 F4 (an d0 (an d1 (an d2 (an d3 (an hs1 (an hs2 (an hs3 tt))))))) tt tt tt ⟨?_⟩
          refine R1 tt ⟨?_⟩
          exact end0 (NR.v _) rfl
        have d3 : decide (b2 < 128) = false := by rw [decide_eq_false_iff_not]; omega
        by_cases s4 : 191 < b2
        · have d4 : decide (191 < b2) = true := by rw [decide_eq_true_eq]; omega
          have hst : stepN t = none := by unfold stepN; rw [hcn, if_neg n2, if_pos n3, hlo0, hhi0, hb1, hb2, if_pos (by omega)]
          rw [bad hst]
          refine G1 F4 (an d0 (an d1 (an d2 (an d3 (an d4 (an hs1 (an hs2 (an hs3 tt)))))))) tt tt tt ⟨?_⟩
          refine R1 tt ⟨?_⟩
          exact end0 (NR.v _) rfl
        have d4 : decide (191 < b2) = false := by rw [decide_eq_false_iff_not]; omega
        have hst : stepN t = some 3 := by unfold stepN; rw [hcn, if_neg n2, if_pos n3, hlo0, hhi0, hb1, hb2, if_neg (by omega)]
        obtain ⟨m1, m2, m3⟩ := good 3 (by decide) hst
        refine G1 F4 (an d0 (an d1 (an d2 (an d3 (an d4 (an hs1 (an hs2 (an hs3 tt)))))))) tt tt tt ⟨?_⟩
        refine ⟨k, (k, rst t 3, gg ++ [⟨ints .u8 [lo, hi], 0, true, 113⟩]), by omega, ⟨rfl, m1, m2, m3⟩, ?_, rfl⟩
        try unfold ms62_0
        exact A0 tt
      have n3 : n ≠ 3 := by simpa using hc
      refine G1 F4 (an hs1 (an hs2 (an hs3 tt))) tt tt tt ⟨?_⟩
      refine lavc_cond rfl (fun hc => ?_) (fun hc => ?_)
      · have n4 : n = 4 := by simpa using hc
        by_cases s0 : t.size < 4
        · have d0 : decide ((t.size : Int) < 4) = true := by rw [decide_eq_true_eq]; omega
          have hst : stepN t = none := by unfold stepN; rw [hcn, if_neg n2, if_neg n3, if_pos n4, hlo0, hhi0, hb1, hb2, hb3, if_pos (by omega)]
          rw [bad hst]
          refine G1 F4 (an d0 (an hs1 (an hs2 (an hs3 tt)))) tt tt tt ⟨?_⟩
          refine R1 tt ⟨?_⟩
          exact end0 (NR.v _) rfl
        have d0 : decide ((t.size : Int) < 4) = false := by rw [decide_eq_false_iff_not]; omega
        by_cases s1 : b1 < lo
        · have d1 : decide (b1 < lo) = true := by rw [decide_eq_true_eq]; omega
          have hst : stepN t = none := by unfold stepN; rw [hcn, if_neg n2, if_neg n3, if_pos n4, hlo0, hhi0, hb1, hb2, hb3, if_pos (by omega)]
          rw [bad hst]
          refine G1 F4 (an d0 (an d1 (an hs1 (an hs2 (an hs3 tt))))) tt tt tt ⟨?_⟩
          refine R1 tt ⟨?_⟩
          exact end0 (NR.v _) rfl
        have d1 : decide (b1 < lo) = false := by rw [decide_eq_false_iff_not]; omega
        by_cases s2 : hi < b1
        · have d2 : decide (hi < b1) = true := by rw [decide_eq_true_eq]; omega
          have hst : stepN t = none := by unfold stepN; rw [hcn, if_neg n2, if_neg n3, if_pos n4, hlo0, hhi0, hb1, hb2, hb3, if_pos (by omega)]
          rw [bad hst]
          refine G1 F4 (an d0 (an d1 (an d2 (an hs1 (an hs2 (an hs3 tt)))))) tt tt tt ⟨?_⟩
          refine R1 tt ⟨?_⟩
          exact end0 (NR.v _) rfl
        have d2 : decide (hi < b1) = false := by rw [decide_eq_false_iff_not]; omega
        by_cases s3 : b2 < 128
        · have d3 : decide (b2 < 128) = true := by rw [decide_eq_true_eq]; omega
          have hst : stepN t = none := by unfold stepN; rw [hcn, if_neg n2, if_neg n3, if_pos n4, hlo0, hhi0, hb1, hb2, hb3, if_pos (by omega)]
          rw [bad hst]
          refine G1 F4 (an d0 (an d1 (an d2 (an d3 (an hs1 (an hs2 (an hs3 tt))))))) tt tt tt ⟨?_⟩
          refine R1 tt ⟨?_⟩
          exact end0 (NR.v _) rfl
        have d3 : decide (b2 < 128) = false := by rw [decide_eq_false_iff_not]; omega
        by_cases s4 : 191 < b2
        · have d4 : decide (191 < b2) = true := by rw [decide_eq_true_eq]; omega
          have hst : stepN t = none := by unfold stepN; rw [hcn, if_neg n2, if_neg n3, if_pos n4, hlo0, hhi0, hb1, hb2, hb3, if_pos (by omega)]
          rw [bad hst]
          refine G1 F4 (an d0 (an d1 (an d2 (an d3 (an d4 (an hs1 (an hs2 (an hs3 tt)))))))) tt tt tt ⟨?_⟩
          refine R1 tt ⟨?_⟩
          exact end0 (NR.v _) rfl
        have d4 : decide (191 < b2) = false := by rw [decide_eq_false_iff_not]; omega
        by_cases s5 : b3 < 128
        · have d5 : decide (b3 < 128) = true := by rw [decide_eq_true_eq]; omega
          have hst : stepN t = none := by unfold stepN; rw [hcn, if_neg n2, if_neg n3, if_pos n4, hlo0, hhi0, hb1, hb2, hb3, if_pos (by omega)]
          rw [bad hst]
          refine G1 F4 (an d0 (an d1 (an d2 (an d3 (an d4 (an d5 (an hs1 (an hs2 (an hs3 tt))))))))) tt tt tt ⟨?_⟩
          refine R1 tt ⟨?_⟩
          exact end0 (NR.v _) rfl
        have d5 : decide (b3 < 128) = false := by rw [decide_eq_false_iff_not]; omega
        by_cases s6 : 191 < b3
        · have d6 : decide (191 < b3) = true := by rw [decide_eq_true_eq]; omega
          have hst : stepN t = none := by unfold stepN; rw [hcn, if_neg n2, if_neg n3, if_pos n4, hlo0, hhi0, hb1, hb2, hb3, if_pos (by omega)]
          rw [bad hst]
          refine G1 F4 (an d0 (an d1 (an d2 (an d3 (an d4 (an d5 (an d6 (an hs1 (an hs2 (an hs3 tt)))))))))) tt tt tt ⟨?_⟩
          refine R1 tt ⟨?_⟩
          exact end0 (NR.v _) rfl
        have d6 : decide (191 < b3) = false := by rw [decide_eq_false_iff_not]; omega
        have hst : stepN t = some 4 := by unfold stepN; rw [hcn, if_neg n2, if_neg n3, if_pos n4, hlo0, hhi0, hb1, hb2, hb3, if_neg (by omega)]
        obtain ⟨m1, m2, m3⟩ := good 4 (by decide) hst
        refine G1 F4 (an d0 (an d1 (an d2 (an d3 (an d4 (an d5 (an d6 (an hs1 (an hs2 (an hs3 tt)))))))))) tt tt tt ⟨?_⟩
        refine ⟨k, (k, rst t 4, gg ++ [⟨ints .u8 [lo, hi], 0, true, 113⟩]), by omega, ⟨rfl, m1, m2, m3⟩, ?_, rfl⟩
        try unfold ms62_0
        exact A0 tt
      have n4 : n ≠ 4 := by simpa using hc
      have hst : stepN t = none := by unfold stepN; rw [hcn, if_neg n2, if_neg n3, if_neg n4]
      rw [bad hst]
      refine G1 F4 (an hs1 (an hs2 (an hs3 tt))) tt tt tt ⟨?_⟩
      refine R1 tt ⟨?_⟩
      exact end0 (NR.v _) rfl
  · obtain rfl : V = true := by rw [← hinv, vsF_end k t (by omega)]
    refine G1 F4 tt tt tt tt ⟨?_⟩
    refine R1 tt ⟨?_⟩
    exact end0 (NR.v _) rfl
end Go.Abs.S
namespace Go.Abs
open Go.Deep
set_option linter.unusedVariables false
set_option linter.unusedSimpArgs false
variable {P : Program} {H : Type} {enc : TypeId × Value → H} {w : World} {spare : Nat → Bool} {held : Bool}
/-- How data of a kind are looked at: their cells. -/
structure Rd (α : Type) where
  sz : Nat
  av : α → List AV
  wf : α → Prop
  len : ∀ y, wf y → (av y).length = sz
  dat : {H : Type} → α → DataW H → Prop
def Rd.Is {α : Type} (r : Rd α) (enc : TypeId × Value → H) (P : Program) (w : World) (spare : Nat → Bool) (held : Bool) (t : TypeId) : Prop :=
  ∀ fuel cs x, DataW.trod enc P w 0 spare held fuel t cs = some x → ∃ y, r.wf y ∧ cs.length = r.sz ∧ (∀ j, j < r.sz → AR (lawSig w) w ((r.av y).getD j .any) (cs.getD j undef)) ∧ r.dat y x.1
def Rd.int (k : IntKind) : Rd Int := ⟨1, fun y => [.v (.int k y)], fun y => (Lit.int k y).wf = true, fun _ _ => rfl, fun _ _ => True⟩
theorem Rd.int_is {k : IntKind} {t : TypeId} (ht : P.underlying t = some (.int k)) : (Rd.int k).Is enc P w spare held t := by
  intro fuel cs x h
  obtain ⟨y, rfl, hw⟩ := int_read ht h
  refine ⟨y, hw, rfl, fun j hj => ?_, trivial⟩
  obtain rfl : j = 0 := by have : j < 1 := hj; omega
  exact .v _
def Rd.str : Rd ByteArray := ⟨1, fun y => [.v (.string y)], fun s => s.size ≤ maxLen, fun _ _ => rfl, fun _ _ => True⟩
def Rd.bool : Rd Bool := ⟨1, fun y => [.v (.bool y)], fun _ => True, fun _ _ => rfl, fun _ _ => True⟩
def Rd.slice {α : Type} (r : Rd α) : Rd (List α) := ⟨1, fun l => [.vsl l.length (l.flatMap r.av) none], fun l => l.length ≤ maxLen ∧ ∀ y ∈ l, r.wf y, fun _ _ => rfl, fun l d => l = [] ∨ ∃ els sp, d = .slice els sp ∧ els.length = l.length ∧ ∀ i, i < l.length → ∃ y e, l[i]? = some y ∧ els[i]? = some e ∧ r.dat y e⟩
def Rd.arr {α : Type} (n : Nat) (r : Rd α) : Rd (List α) := ⟨n * r.sz, fun l => l.flatMap r.av, fun l => l.length = n ∧ ∀ y ∈ l, r.wf y, fun l h => by
  obtain ⟨rfl, h⟩ := h
  induction l with
  | nil => simp
  | cons y l ih =>
    rw [List.flatMap_cons, List.length_append, r.len y (h y List.mem_cons_self), ih (fun z hz => h z (List.mem_cons_of_mem _ hz)), List.length_cons, Nat.succ_mul, Nat.add_comm], fun _ _ => True⟩
/-- Where a row's cell lies. -/
theorem flat_at {α : Type} (r : Rd α) : ∀ (l : List α) (j : Nat), (∀ y ∈ l, r.wf y) → j < l.length * r.sz → ∃ i y, i < l.length ∧ l[i]? = some y ∧ j = i * r.sz + j % r.sz ∧ j % r.sz < r.sz ∧ (l.flatMap r.av)[j]? = (r.av y)[j % r.sz]?
  | [], j, _, h => by simp at h
  | y :: l, j, hw, h => by
    have hz : 0 < r.sz := Nat.pos_of_ne_zero fun e => by simp [e] at h
    have hy := r.len y (hw y List.mem_cons_self)
    by_cases hj : j < r.sz
    · refine ⟨0, y, by simp, rfl, by rw [Nat.mod_eq_of_lt hj]; omega, Nat.mod_lt _ hz, ?_⟩
      rw [List.flatMap_cons, List.getElem?_append_left (by omega), Nat.mod_eq_of_lt hj]
    · rw [List.length_cons, Nat.succ_mul] at h
      obtain ⟨i, y', h1, h2, h3, h4, h5⟩ := flat_at r l (j - r.sz) (fun z hz => hw z (List.mem_cons_of_mem _ hz)) (by omega)
      have hm : (j - r.sz) % r.sz = j % r.sz := (Nat.mod_eq_sub_mod (by omega)).symm
      rw [hm] at h3 h4 h5
      refine ⟨i + 1, y', by simp; omega, by simpa using h2, by rw [Nat.succ_mul]; omega, h4, ?_⟩
      rw [List.flatMap_cons, List.getElem?_append_right (by omega), hy, h5]
theorem Rd.slice_is {α : Type} [Inhabited α] {r : Rd α} {e t : TypeId} (ht : P.underlying t = some (.slice e)) (hsz : P.cellsOf e = r.sz) (hpos : 0 < r.sz) (hel : r.Is enc P w spare held e) : r.slice.Is enc P w spare held t := by
  intro fuel cs x h
  rcases open_slice ht h with ⟨rfl, _⟩ | ⟨a, len, cap, m, n, D, Pl, rfl, _, hl, hm, hmm, hxe, hx⟩
  · refine ⟨[], ⟨by simp, by simp⟩, rfl, fun j hj => ?_, .inl rfl⟩
    obtain rfl : j = 0 := by have : j < 1 := hj; omega
    exact .vsl0 _ _ (fun c hc => by cases hc)
  · have hlm : len ≤ m := by rw [hmm]; split <;> omega
    have hc : ∀ i, i < len → ∃ y, (r.wf y ∧ ∀ j, j < r.sz → ∃ u, w.cell? (a.add (i * r.sz + j)) = some u ∧ AR (lawSig w) w ((r.av y).getD j .any) u) ∧ r.dat y (D i) := by
      intro i hi
      obtain ⟨cs', h1, h2⟩ := hx i (by omega)
      obtain ⟨y, hw, hlen, har, hdat⟩ := hel _ _ _ h2
      obtain ⟨_, _, hcell⟩ := World.cells?_some h1
      refine ⟨y, ⟨hw, fun j hj => ⟨cs'.getD j undef, ?_, har j hj⟩⟩, hdat⟩
      have := hcell j (by omega)
      rw [hsz] at this
      have e : a.add (i * r.sz + j) = (a.add (i * r.sz)).add j := by
        unfold Addr.add
        by_cases h1 : i * r.sz = 0 <;> by_cases h2 : j = 0 <;> simp [h1, h2]
        omega
      rw [e, this, List.getD_eq_getElem?_getD, List.getElem?_eq_getElem (by omega)]
      rfl
    obtain ⟨V, hV0⟩ := choose_lt (α := α) (p := fun i y => (r.wf y ∧ ∀ j, j < r.sz → ∃ u, w.cell? (a.add (i * r.sz + j)) = some u ∧ AR (lawSig w) w ((r.av y).getD j .any) u) ∧ r.dat y (D i)) hc
    have hV := fun i hi => (hV0 i hi).1
    have hdt : r.slice.dat ((List.range len).map V) (DataW.slice ((List.range len).map D) ((List.range (m - len)).map fun j => D (len + j))) := by
      refine .inr ⟨_, _, rfl, by simp, fun i hi => ?_⟩
      rw [List.length_map, List.length_range] at hi
      exact ⟨V i, D i, by simp [hi], by simp [hi], (hV0 i hi).2⟩
    have hwf : ∀ y ∈ (List.range len).map V, r.wf y := fun y hy => by
      simp only [List.mem_map, List.mem_range] at hy
      obtain ⟨i, hi, rfl⟩ := hy
      exact (hV i hi).1
    refine ⟨(List.range len).map V, ⟨by simp; omega, hwf⟩, rfl, fun j hj => ?_, by rw [hxe]; exact hdt⟩
    obtain rfl : j = 0 := by have : j < 1 := hj; omega
    show AR (lawSig w) w (.vsl ((List.range len).map V).length (((List.range len).map V).flatMap r.av) none) (.slice (some a) len cap)
    have hll : ((List.range len).map V).length = len := by simp
    have hfl : (((List.range len).map V).flatMap r.av).length = len * r.sz := by
      have := (r.arr len).len ((List.range len).map V) ⟨hll, hwf⟩
      exact this
    rw [hll]
    have key : ∀ j, j < len * r.sz → ∃ u, w.cell? (a.add j) = some u ∧ AR (lawSig w) w ((((List.range len).map V).flatMap r.av).getD j .any) u := by
      intro j hj
      obtain ⟨i, y, h1, h2, h3, h4, h5⟩ := flat_at r ((List.range len).map V) j hwf (by rw [hll]; exact hj)
      rw [hll] at h1
      obtain rfl : V i = y := by simpa [h1] using h2
      obtain ⟨u, g1, g2⟩ := (hV i h1).2 _ h4
      refine ⟨u, by rw [h3]; exact g1, ?_⟩
      rw [List.getD_eq_getElem?_getD, h5, ← List.getD_eq_getElem?_getD]
      exact g2
    by_cases h0 : len * r.sz = 0
    · have : len = 0 := (Nat.mul_eq_zero.1 h0).resolve_right (by omega)
      subst this
      exact .vsl0 _ _ (fun c hc => by cases hc)
    · obtain ⟨u0, c0, _⟩ := key 0 (by omega)
      obtain ⟨ab, ao, asp⟩ := a
      have hsp : asp = none := by
        cases asp with
        | none => rfl
        | some s => simp [World.cell?, Addr.add] at c0; split at c0 <;> simp at c0
      subst hsp
      have hlt : ab < w.heap.size := by
        rcases Nat.lt_or_ge ab w.heap.size with h | h
        · exact h
        · simp [World.cell?, Addr.add, Array.getElem?_eq_none h] at c0
      refine .vsl ab ao cap (fun j => (w.cell? ⟨ab, ao + j, none⟩).getD undef) hlt (fun j hj => ?_) (fun j hj => ?_) hl (fun c hc => by cases hc)
      · obtain ⟨u, g1, _⟩ := key j (by omega)
        rw [Addr.add_lit] at g1
        rw [g1]
        rfl
      · obtain ⟨u, g1, g2⟩ := key j (by omega)
        rw [Addr.add_lit] at g1
        rw [g1]
        exact g2
theorem Rd.str_is {t : TypeId} (ht : P.underlying t = some .string) : Rd.str.Is enc P w spare held t := by
  intro fuel cs x h
  obtain ⟨y, rfl, _, hw⟩ := DataW.trod_string ht h
  refine ⟨y, hw, rfl, fun j hj => ?_, trivial⟩
  obtain rfl : j = 0 := by have : j < 1 := hj; omega
  exact .v _
/-- Numbers in a row. -/
theorem flat_ints (k : IntKind) (l : List Int) : l.flatMap (Rd.int k).av = ints k l := by
  induction l with
  | nil => rfl
  | cons y l ih => rw [List.flatMap_cons, ih]; rfl
/-- Rows of numbers in a row. -/
def rows (k : IntKind) (rs : List (List Int)) : List AV := rs.map fun r => .vsl r.length (ints k r) none
theorem flat_rows (k : IntKind) (rs : List (List Int)) : rs.flatMap (Rd.int k).slice.av = rows k rs := by
  induction rs with
  | nil => rfl
  | cons y l ih =>
    rw [List.flatMap_cons, ih]
    show AV.vsl y.length (y.flatMap (Rd.int k).av) none :: rows k l = _
    rw [flat_ints]
    rfl
/-- Texts in a row. -/
def strs (ss : List ByteArray) : List AV := ss.map fun s => .v (.string s)
theorem strs_length (ss : List ByteArray) : (strs ss).length = ss.length := by simp [strs]
theorem flat_strs (ss : List ByteArray) : ss.flatMap Rd.str.av = strs ss := by
  induction ss with
  | nil => rfl
  | cons y l ih => rw [List.flatMap_cons, ih]; rfl
theorem rd_slice {α : Type} (r : Rd α) (l : List α) : (r.slice.av l).getD 0 .any = .vsl l.length (l.flatMap r.av) none := rfl
theorem rd_arr {α : Type} (n : Nat) (r : Rd α) (l : List α) : (r.arr n).av l = l.flatMap r.av := rfl
/-- A laid variable's cells. -/
theorem laid_ar {g : Nat} {cs : List Value} {xs : List AV} (hc : ∀ i, w.cell? ⟨g, i, none⟩ = cs[i]?) (h0 : 0 < cs.length) (hx : xs = cs.map .v) : AR (lawSig w) w (.vptr xs 0) (.pointer (some ⟨g, 0, none⟩)) := by
  subst hx
  have hlt : g < w.heap.size := by
    rcases Nat.lt_or_ge g w.heap.size with h | h
    · exact h
    · have := hc 0
      rw [List.getElem?_eq_getElem h0] at this
      simp [World.cell?, Array.getElem?_eq_none h] at this
  refine .vptr (off := 0) g 0 (fun j => cs.getD j undef) hlt (fun j hj => ?_) (fun j hj => ?_)
  · rw [List.length_map] at hj
    rw [Nat.zero_add, hc, List.getElem?_eq_getElem hj]
    simp [List.getD_eq_getElem?_getD, hj]
  · rw [List.length_map] at hj
    simp only [List.getD_eq_getElem?_getD, List.getElem?_map, List.getElem?_eq_getElem hj, Option.map_some, Option.getD_some]
    exact .v _
theorem Rd.arg1d {α : Type} {r : Rd α} {t : TypeId} {v : Value} {d : DataW H} {ps : List MemPlace} (his : r.Is enc P w spare held t) (h1 : r.sz = 1) (h : DataW.Trod enc P w 0 spare held t v d ps) (hv : v.cells = #[v]) : ∃ y, r.wf y ∧ AR (lawSig w) w ((r.av y).getD 0 .any) v ∧ r.dat y d := by
  obtain ⟨fuel, h⟩ := h
  obtain ⟨y, hw, _, ha, hd⟩ := his _ _ _ h
  have := ha 0 (by omega)
  rw [hv] at this
  exact ⟨y, hw, this, hd⟩
/-- An argument that is a row. -/
theorem Rd.argN {α : Type} {r : Rd α} {t : TypeId} {us : Array Value} {d : DataW H} {ps : List MemPlace} (his : r.Is enc P w spare held t) (h : DataW.Trod enc P w 0 spare held t (.agg us) d ps) : ∃ y, r.wf y ∧ AR (lawSig w) w (.agg (r.av y)) (.agg us) := by
  obtain ⟨fuel, h⟩ := h
  obtain ⟨y, hw, hl, ha, _⟩ := his _ _ _ h
  have hl' : us.size = r.sz := by simpa [Value.cells] using hl
  refine ⟨y, hw, .agg us (by rw [r.len y hw]; exact hl') (fun j hj => ?_)⟩
  rw [r.len y hw] at hj
  have := ha j hj
  simpa [Value.cells, List.getD_eq_getElem?_getD] using this
end Go.Abs
namespace Go.Abs
set_option linter.unusedVariables false
set_option linter.unusedSimpArgs false
abbrev bl (s : ByteArray) : List UInt8 := s.data.toList
def bs (l : List UInt8) : ByteArray := ⟨l.toArray⟩
@[go_sem] theorem bl_bs (l : List UInt8) : (bs l).data.toList = l := rfl
theorem bs_bl (s : ByteArray) : bs s.data.toList = s := rfl
@[go_sem] theorem bs_size (l : List UInt8) : (bs l).size = l.length := by simp [bs, ByteArray.size]
theorem ba_ext {s t : ByteArray} (h : s.data.toList = t.data.toList) : s = t := by
  rw [← bs_bl s, ← bs_bl t, h]
theorem bs_ext (l : List UInt8) (a b : Nat) : (bs l).extract a b = bs ((l.drop a).take (b - a)) := by
  refine ba_ext ?_
  rw [ByteArray.data_extract, bl_bs]
  simp [bs, List.extract_eq_take_drop]
theorem bs_from (l : List UInt8) (a : Nat) : (bs l).extract a l.length = bs (l.drop a) := by
  rw [bs_ext, List.take_of_length_le (by simp)]
@[go_sem] theorem bs_mid (l : List UInt8) (a b : Nat) : (bs l).extract a b = bs ((l.drop a).take (b - a)) := bs_ext l a b
@[go_sem] theorem take_rest (l : List UInt8) (a : Nat) : (l.drop a).take (l.length - a) = l.drop a := List.take_of_length_le (by simp)
@[go_sem] theorem bs_toList (l : List UInt8) : (bs l).toList = l := by rw [ByteArray.toList_eq]; rfl
theorem bs_append (l m : List UInt8) : bs l ++ bs m = bs (l ++ m) := by
  refine ba_ext ?_
  rw [ByteArray.data_append, bl_bs]
  simp [bs]
@[go_sem] theorem sub_z (n : Nat) : n - 0 = n := rfl
@[go_sem] theorem bs_same (l m : List UInt8) : (l == m) = decide (l = m) := by
  rw [Bool.eq_iff_iff, beq_iff_eq, decide_eq_true_eq]
end Go.Abs
namespace Go.Abs.S
open Go.Proofs
set_option linter.unusedVariables false
set_option linter.unusedSimpArgs false
set_option maxRecDepth 100000
set_option maxHeartbeats 4000000
/-- A row's byte. -/
def bw (l : List UInt8) (i : Nat) : Nat := (l.getD i 0).toNat
def okc (d : Nat) : Prop := 128 ≤ d ∧ d < 192
instance (d : Nat) : Decidable (okc d) := by unfold okc; infer_instance
def fitv (least v : Nat) : Prop := least ≤ v ∧ v ≤ 1114111 ∧ ¬(55296 ≤ v ∧ v ≤ 57343)
instance (a v : Nat) : Decidable (fitv a v) := by unfold fitv; infer_instance
/-- How many bytes the sign at a row's beginning has. -/
def runeL (l : List UInt8) : Nat :=
  if bw l 0 < 128 then 1
  else if 194 ≤ bw l 0 ∧ bw l 0 < 224 then (if 1 < l.length ∧ okc (bw l 1) ∧ fitv 128 ((bw l 0 - 192) * 64 + (bw l 1 - 128)) then 2 else 0)
  else if 224 ≤ bw l 0 ∧ bw l 0 < 240 then (if 2 < l.length ∧ okc (bw l 1) ∧ okc (bw l 2) ∧ fitv 2048 (((bw l 0 - 224) * 64 + (bw l 1 - 128)) * 64 + (bw l 2 - 128)) then 3 else 0)
  else if 240 ≤ bw l 0 ∧ bw l 0 < 245 then (if 3 < l.length ∧ okc (bw l 1) ∧ okc (bw l 2) ∧ okc (bw l 3) ∧ fitv 65536 ((((bw l 0 - 240) * 64 + (bw l 1 - 128)) * 64 + (bw l 2 - 128)) * 64 + (bw l 3 - 128)) then 4 else 0)
  else 0
def rightF : Nat → List UInt8 → Bool
  | 0, _ => true
  | k + 1, l => if l = [] then true else if runeL l = 0 then false else rightF k (l.drop (runeL l))
def rightL (l : List UInt8) : Bool := rightF (l.length + 1) l
theorem rightF_two : ∀ (m k : Nat) (l : List UInt8), l.length < m → l.length < k → rightF m l = rightF k l
  | 0, _, l, h, _ => absurd h (Nat.not_lt_zero _)
  | _ + 1, 0, l, _, h => absurd h (Nat.not_lt_zero _)
  | m + 1, k + 1, l, h1, h2 => by
    rw [rightF, rightF]
    by_cases h0 : l = []
    · rw [if_pos h0, if_pos h0]
    rw [if_neg h0, if_neg h0]
    by_cases h3 : runeL l = 0
    · rw [if_pos h3, if_pos h3]
    rw [if_neg h3, if_neg h3]
    have hp : 0 < l.length := List.length_pos_iff.2 h0
    have hd : (l.drop (runeL l)).length = l.length - runeL l := List.length_drop
    exact rightF_two m k _ (by omega) (by omega)
theorem rightL_step (l : List UInt8) (h : l ≠ []) : rightL l = if runeL l = 0 then false else rightL (l.drop (runeL l)) := by
  unfold rightL
  rw [rightF, if_neg h]
  by_cases h3 : runeL l = 0
  · rw [if_pos h3, if_pos h3]
  rw [if_neg h3, if_neg h3]
  have hp : 0 < l.length := List.length_pos_iff.2 h
  have hd : (l.drop (runeL l)).length = l.length - runeL l := List.length_drop
  exact rightF_two _ _ _ (by omega) (by omega)
theorem runeL_ascii (l : List UInt8) (h : bw l 0 < 128) : runeL l = 1 := by unfold runeL; rw [if_pos h]
/-- What the first byte tells. -/
def tabP (c : Nat) (n lo hi : Int) : Prop :=
  if 194 ≤ c ∧ c < 224 then n = 2 ∧ lo = 128 ∧ hi = 191
  else if c = 224 then n = 3 ∧ lo = 160 ∧ hi = 191
  else if c = 237 then n = 3 ∧ lo = 128 ∧ hi = 159
  else if 224 ≤ c ∧ c < 240 then n = 3 ∧ lo = 128 ∧ hi = 191
  else if c = 240 then n = 4 ∧ lo = 144 ∧ hi = 191
  else if c = 244 then n = 4 ∧ lo = 128 ∧ hi = 143
  else if 240 ≤ c ∧ c < 245 then n = 4 ∧ lo = 128 ∧ hi = 191
  else n ≠ 2 ∧ n ≠ 3 ∧ n ≠ 4
instance (c : Nat) (n lo hi : Int) : Decidable (tabP c n lo hi) := by unfold tabP; infer_instance
theorem tab : ∀ c : Nat, c < 256 → 128 ≤ c → tabP c (IntKind.i64.wrap (ibits .and .u8 (lay_unicode_utf8_first.getD c 0) 7)) (lay_unicode_utf8_acceptRanges.getD ((lay_unicode_utf8_first.getD c 0).toNat / 16 * 2) 0) (lay_unicode_utf8_acceptRanges.getD ((lay_unicode_utf8_first.getD c 0).toNat / 16 * 2 + 1) 0) := by decide +kernel
theorem step_eq (A B : Prop) [Decidable A] [Decidable B] (n : Nat) (hn : n ≠ 0) (h : A ↔ ¬ B) : (if A then none else some n) = if (if B then n else 0) = 0 then none else some (if B then n else 0) := by
  by_cases hb : B
  · rw [if_neg (fun a => h.1 a hb), if_pos hb, if_neg hn]
  · rw [if_pos (h.2 hb), if_neg hb, if_pos rfl]
theorem bq_bw (t : ByteArray) (i : Nat) : bq t i = (bw (bl t) i : Int) := rfl
theorem bw_lt (l : List UInt8) (i : Nat) : bw l i < 256 := (l.getD i 0).toNat_lt
theorem step_rune (t : ByteArray) (h : 128 ≤ bw (bl t) 0) : stepN t = if runeL (bl t) = 0 then none else some (runeL (bl t)) := by
  have hs : t.size = (bl t).length := by
    show _ = t.data.toList.length
    rw [Array.length_toList]
    rfl
  have T := tab (bw (bl t) 0) (bw_lt _ _) h
  unfold tabP at T
  have e1 : fstB t = lay_unicode_utf8_first.getD (bw (bl t) 0) 0 := by unfold fstB; rw [bq_bw]; rfl
  unfold stepN cntB loB hiB
  rw [e1, hs, bq_bw, bq_bw, bq_bw]
  unfold runeL okc fitv
  obtain ⟨n, hn⟩ : ∃ n, IntKind.i64.wrap (ibits .and .u8 (lay_unicode_utf8_first.getD (bw (bl t) 0) 0) 7) = n := ⟨_, rfl⟩
  obtain ⟨lo, hlo⟩ : ∃ n, lay_unicode_utf8_acceptRanges.getD ((lay_unicode_utf8_first.getD (bw (bl t) 0) 0).toNat / 16 * 2) 0 = n := ⟨_, rfl⟩
  obtain ⟨hi, hhi⟩ : ∃ n, lay_unicode_utf8_acceptRanges.getD ((lay_unicode_utf8_first.getD (bw (bl t) 0) 0).toNat / 16 * 2 + 1) 0 = n := ⟨_, rfl⟩
  rw [hn, hlo, hhi] at T
  rw [hn, hlo, hhi]
  have b1 := bw_lt (bl t) 1
  have b2 := bw_lt (bl t) 2
  have b3 := bw_lt (bl t) 3
  obtain ⟨c, hc⟩ : ∃ c, bw (bl t) 0 = c := ⟨_, rfl⟩
  obtain ⟨d1, hd1⟩ : ∃ c, bw (bl t) 1 = c := ⟨_, rfl⟩
  obtain ⟨d2, hd2⟩ : ∃ c, bw (bl t) 2 = c := ⟨_, rfl⟩
  obtain ⟨d3, hd3⟩ : ∃ c, bw (bl t) 3 = c := ⟨_, rfl⟩
  obtain ⟨L, hL⟩ : ∃ c, (bl t).length = c := ⟨_, rfl⟩
  rw [hc] at T h ⊢
  rw [hd1] at b1 ⊢
  rw [hd2] at b2 ⊢
  rw [hd3] at b3 ⊢
  rw [hL]
  clear hn hlo hhi hc hd1 hd2 hd3 hL e1 hs
  by_cases c1 : 194 ≤ c ∧ c < 224
  · rw [if_pos c1] at T
    obtain ⟨rfl, rfl, rfl⟩ := T
    rw [if_pos rfl, if_neg (show ¬ c < 128 by omega), if_pos c1]
    exact step_eq _ _ 2 (by decide) (by omega)
  rw [if_neg c1] at T
  rw [if_neg (show ¬ c < 128 by omega), if_neg c1]
  by_cases c2 : 224 ≤ c ∧ c < 240
  · rw [if_pos c2]
    have T3 : n = 3 ∧ (if c = 224 then lo = 160 ∧ hi = 191 else if c = 237 then lo = 128 ∧ hi = 159 else lo = 128 ∧ hi = 191) := by
      by_cases q1 : c = 224
      · rw [if_pos q1] at T ⊢
        exact T
      rw [if_neg q1] at T ⊢
      by_cases q2 : c = 237
      · rw [if_pos q2] at T ⊢
        exact T
      rw [if_neg q2] at T ⊢
      rw [if_pos c2] at T
      exact T
    obtain ⟨rfl, T4⟩ := T3
    rw [if_neg (by decide), if_pos rfl]
    refine step_eq _ _ 3 (by decide) ?_
    split at T4
    · omega
    split at T4 <;> omega
  rw [if_neg c2]
  by_cases c3 : 240 ≤ c ∧ c < 245
  · rw [if_pos c3]
    rw [if_neg (show ¬ c = 224 by omega), if_neg (show ¬ c = 237 by omega), if_neg c2] at T
    have T3 : n = 4 ∧ (if c = 240 then lo = 144 ∧ hi = 191 else if c = 244 then lo = 128 ∧ hi = 143 else lo = 128 ∧ hi = 191) := by
      by_cases q1 : c = 240
      · rw [if_pos q1] at T ⊢
        exact T
      rw [if_neg q1] at T ⊢
      by_cases q2 : c = 244
      · rw [if_pos q2] at T ⊢
        exact T
      rw [if_neg q2] at T ⊢
      rw [if_pos c3] at T
      exact T
    obtain ⟨rfl, T4⟩ := T3
    rw [if_neg (by decide), if_neg (by decide), if_pos rfl]
    refine step_eq _ _ 4 (by decide) ?_
    split at T4
    · omega
    split at T4 <;> omega
  rw [if_neg c3]
  rw [if_neg (show ¬ c = 224 by omega), if_neg (show ¬ c = 237 by omega), if_neg c2, if_neg (show ¬ c = 240 by omega), if_neg (show ¬ c = 244 by omega), if_neg c3] at T
  rw [if_neg T.1, if_neg T.2.1, if_neg T.2.2]
  rfl
theorem or_nat (a b : Nat) (ha : a < 2 ^ 64) (hb : b < 2 ^ 64) : ibits .or .u64 (a : Int) (b : Int) = ((a ||| b : Nat) : Int) := by
  have h := Nat.or_lt_two_pow ha hb
  show IntKind.u64.wrap (BitVec.ofInt 64 (a : Int) ||| BitVec.ofInt 64 (b : Int)).toNat = _
  rw [BitVec.toNat_or, BitVec.ofInt_natCast, BitVec.ofInt_natCast, BitVec.toNat_ofNat, BitVec.toNat_ofNat, Nat.mod_eq_of_lt ha, Nat.mod_eq_of_lt hb, IntKind.wrap_u64]
  omega
theorem and_nat (a b : Nat) (ha : a < 2 ^ 64) (hb : b < 2 ^ 64) : ibits .and .u64 (a : Int) (b : Int) = ((a &&& b : Nat) : Int) := by
  have h : a &&& b < 2 ^ 64 := Nat.lt_of_le_of_lt Nat.and_le_left ha
  show IntKind.u64.wrap (BitVec.ofInt 64 (a : Int) &&& BitVec.ofInt 64 (b : Int)).toNat = _
  rw [BitVec.toNat_and, BitVec.ofInt_natCast, BitVec.ofInt_natCast, BitVec.toNat_ofNat, BitVec.toNat_ofNat, Nat.mod_eq_of_lt ha, Nat.mod_eq_of_lt hb, IntKind.wrap_u64]
  omega
/-- The upper bits of eight bytes. -/
def maskz (x : Nat) : Prop := ∀ k, k < 8 → x.testBit (8 * k + 7) = false
theorem maskz_or {x y : Nat} (h : maskz (x ||| y)) : maskz x ∧ maskz y := by
  refine ⟨fun k hk => ?_, fun k hk => ?_⟩
  · have := h k hk
    rw [Nat.testBit_or, Bool.or_eq_false_iff] at this
    exact this.1
  · have := h k hk
    rw [Nat.testBit_or, Bool.or_eq_false_iff] at this
    exact this.2
theorem mask_bits : ∀ k, k < 8 → (9259542123273814144 : Nat).testBit (8 * k + 7) = true := by decide
theorem maskz_and {x : Nat} (hx : x < 2 ^ 64) (h : (ibits .and .u64 (x : Int) 9259542123273814144 == 0) = true) : maskz x := by
  have e := and_nat x 9259542123273814144 hx (by decide)
  have e2 : ((9259542123273814144 : Nat) : Int) = 9259542123273814144 := rfl
  rw [e2] at e
  rw [e, beq_iff_eq] at h
  have h0 : x &&& 9259542123273814144 = 0 := by omega
  intro k hk
  have := congrArg (fun z => Nat.testBit z (8 * k + 7)) h0
  simp only [Nat.testBit_and, mask_bits k hk, Bool.and_true, Nat.zero_testBit] at this
  exact this
/-- A byte at its place. -/
def atB (b k : Nat) : Nat := b * 2 ^ (8 * k)
theorem atB_lt (b k : Nat) (hb : b < 256) (hk : k < 8) : atB b k < 2 ^ 64 := by
  unfold atB
  match k, hk with
  | 0, _ => omega
  | 1, _ => omega
  | 2, _ => omega
  | 3, _ => omega
  | 4, _ => omega
  | 5, _ => omega
  | 6, _ => omega
  | 7, _ => omega
theorem shl_at (b k : Nat) (hb : b < 256) (hk : k < 8) : shlI .u64 (b : Int) ((8 * k : Nat) : Int) = (atB b k : Int) := by
  have h := atB_lt b k hb hk
  unfold atB at h ⊢
  unfold shlI
  have e : min (((8 * k : Nat) : Int)).toNat IntKind.u64.bits = 8 * k := by
    show min (((8 * k : Nat) : Int)).toNat 64 = _
    omega
  rw [e, IntKind.wrap_u64]
  have e2 : (b : Int) * 2 ^ (8 * k) = ((b * 2 ^ (8 * k) : Nat) : Int) := by
    rw [Int.natCast_mul, Int.natCast_pow]
    rfl
  rw [e2]
  omega
theorem maskz_at (b k : Nat) (hb : b < 256) (hk : k < 8) (h : maskz (atB b k)) : b < 128 := by
  have := h k hk
  unfold atB at this
  rw [Nat.testBit_eq_decide_div_mod_eq, decide_eq_false_iff_not, Nat.pow_add, ← Nat.div_div_eq_div_mul, Nat.mul_div_cancel _ (Nat.pow_pos (by decide))] at this
  have e : (2 : Nat) ^ 7 = 128 := by decide
  rw [e] at this
  omega
def wN (l : List UInt8) : Nat := ((((((atB (bw l 0) 0 ||| atB (bw l 1) 1) ||| atB (bw l 2) 2) ||| atB (bw l 3) 3) ||| atB (bw l 4) 4) ||| atB (bw l 5) 5) ||| atB (bw l 6) 6) ||| atB (bw l 7) 7
theorem wN_lt (l : List UInt8) : wN l < 2 ^ 64 := by
  unfold wN
  have h := fun k hk => atB_lt (bw l k) k (bw_lt l k) hk
  exact Nat.or_lt_two_pow (Nat.or_lt_two_pow (Nat.or_lt_two_pow (Nat.or_lt_two_pow (Nat.or_lt_two_pow (Nat.or_lt_two_pow (Nat.or_lt_two_pow (h 0 (by decide)) (h 1 (by decide))) (h 2 (by decide))) (h 3 (by decide))) (h 4 (by decide))) (h 5 (by decide))) (h 6 (by decide))) (h 7 (by decide))
theorem wb_bw (l : List UInt8) (k : Nat) : wb (bs l) k = (bw l k : Int) := by
  have := bw_lt l k
  show IntKind.u64.wrap ((bw l k : Nat) : Int) = _
  rw [IntKind.wrap_u64]
  omega
theorem word_nat (l : List UInt8) : wordP (bs l) = (wN l : Int) := by
  have h := fun k hk => atB_lt (bw l k) k (bw_lt l k) hk
  have s := fun k hk => shl_at (bw l k) k (bw_lt l k) hk
  have s1 : shlI .u64 (bw l 1 : Int) 8 = (atB (bw l 1) 1 : Int) := s 1 (by decide)
  have s2 : shlI .u64 (bw l 2 : Int) 16 = (atB (bw l 2) 2 : Int) := s 2 (by decide)
  have s3 : shlI .u64 (bw l 3 : Int) 24 = (atB (bw l 3) 3 : Int) := s 3 (by decide)
  have s4 : shlI .u64 (bw l 4 : Int) 32 = (atB (bw l 4) 4 : Int) := s 4 (by decide)
  have s5 : shlI .u64 (bw l 5 : Int) 40 = (atB (bw l 5) 5 : Int) := s 5 (by decide)
  have s6 : shlI .u64 (bw l 6 : Int) 48 = (atB (bw l 6) 6 : Int) := s 6 (by decide)
  have s7 : shlI .u64 (bw l 7 : Int) 56 = (atB (bw l 7) 7 : Int) := s 7 (by decide)
  have s0 : ((bw l 0 : Nat) : Int) = (atB (bw l 0) 0 : Int) := by unfold atB; simp
  unfold wordP wN
  rw [wb_bw, wb_bw, wb_bw, wb_bw, wb_bw, wb_bw, wb_bw, wb_bw, s1, s2, s3, s4, s5, s6, s7, s0]
  have h0 := h 0 (by decide)
  have h1 := Nat.or_lt_two_pow h0 (h 1 (by decide))
  have h2 := Nat.or_lt_two_pow h1 (h 2 (by decide))
  have h3 := Nat.or_lt_two_pow h2 (h 3 (by decide))
  have h4 := Nat.or_lt_two_pow h3 (h 4 (by decide))
  have h5 := Nat.or_lt_two_pow h4 (h 5 (by decide))
  have h6 := Nat.or_lt_two_pow h5 (h 6 (by decide))
  rw [or_nat _ _ h0 (h 1 (by decide)), or_nat _ _ h1 (h 2 (by decide)), or_nat _ _ h2 (h 3 (by decide)), or_nat _ _ h3 (h 4 (by decide)), or_nat _ _ h4 (h 5 (by decide)), or_nat _ _ h5 (h 6 (by decide)), or_nat _ _ h6 (h 7 (by decide))]
def low8 (l : List UInt8) : Prop := ∀ k, k < 8 → bw l k < 128
theorem maskz_low (l : List UInt8) (h : maskz (wN l)) : low8 l := by
  unfold wN at h
  obtain ⟨h, h7⟩ := maskz_or h
  obtain ⟨h, h6⟩ := maskz_or h
  obtain ⟨h, h5⟩ := maskz_or h
  obtain ⟨h, h4⟩ := maskz_or h
  obtain ⟨h, h3⟩ := maskz_or h
  obtain ⟨h, h2⟩ := maskz_or h
  obtain ⟨h0, h1⟩ := maskz_or h
  have g := fun k hk (hm : maskz (atB (bw l k) k)) => maskz_at (bw l k) k (bw_lt l k) hk hm
  intro k hk
  match k, hk with
  | 0, hk => exact g 0 hk h0
  | 1, hk => exact g 1 hk h1
  | 2, hk => exact g 2 hk h2
  | 3, hk => exact g 3 hk h3
  | 4, hk => exact g 4 hk h4
  | 5, hk => exact g 5 hk h5
  | 6, hk => exact g 6 hk h6
  | 7, hk => exact g 7 hk h7
theorem bw_drop (l : List UInt8) (n k : Nat) : bw (l.drop n) k = bw l (n + k) := by
  unfold bw
  rw [List.getD_eq_getElem?_getD, List.getElem?_drop, ← List.getD_eq_getElem?_getD]
theorem rst_bs (l : List UInt8) (n : Nat) : rst (bs l) n = bs (l.drop n) := by
  show (bs l).extract n (bs l).size = _
  rw [bs_size, bs_from]
theorem right_low : ∀ (n : Nat) (l : List UInt8), n ≤ l.length → (∀ k, k < n → bw l k < 128) → rightL (l.drop n) = rightL l
  | 0, l, _, _ => by rw [List.drop_zero]
  | n + 1, l, hn, h => by
    have hne : l ≠ [] := fun e => by rw [e] at hn; simp at hn
    have h1 := right_low n (l.drop 1) (by rw [List.length_drop]; omega) (fun k hk => by rw [bw_drop]; exact h _ (by omega))
    rw [List.drop_drop] at h1
    rw [rightL_step l hne, runeL_ascii l (h 0 (by omega)), if_neg (by decide), ← h1, Nat.add_comm]
theorem c8_low (l : List UInt8) (h : c8 (bs l) = true) : low8 l := by
  unfold c8 at h
  rw [word_nat] at h
  exact maskz_low l (maskz_and (wN_lt l) h)
theorem c16_low (l : List UInt8) (h : c16 (bs l) = true) : low8 l ∧ low8 (l.drop 8) := by
  unfold c16 at h
  rw [rst_bs, word_nat, word_nat, or_nat _ _ (wN_lt l) (wN_lt _)] at h
  have hm := maskz_or (maskz_and (Nat.or_lt_two_pow (wN_lt l) (wN_lt _)) h)
  exact ⟨maskz_low _ hm.1, maskz_low _ hm.2⟩
theorem c32_low (l : List UInt8) (h : c32 (bs l) = true) : (low8 l ∧ low8 (l.drop 8)) ∧ low8 (l.drop 16) ∧ low8 (l.drop 24) := by
  unfold c32 at h
  rw [rst_bs, rst_bs, rst_bs, word_nat, word_nat, word_nat, word_nat, or_nat _ _ (wN_lt l) (wN_lt _), or_nat _ _ (wN_lt _) (wN_lt _), or_nat _ _ (Nat.or_lt_two_pow (wN_lt l) (wN_lt _)) (Nat.or_lt_two_pow (wN_lt _) (wN_lt _))] at h
  have hm := maskz_or (maskz_and (Nat.or_lt_two_pow (Nat.or_lt_two_pow (wN_lt l) (wN_lt _)) (Nat.or_lt_two_pow (wN_lt _) (wN_lt _))) h)
  have ha := maskz_or hm.1
  have hb := maskz_or hm.2
  exact ⟨⟨maskz_low _ ha.1, maskz_low _ ha.2⟩, maskz_low _ hb.1, maskz_low _ hb.2⟩
theorem right8 (l : List UInt8) (hl : 8 ≤ l.length) (h : low8 l) : rightL (l.drop 8) = rightL l := right_low 8 l hl h
/-- What is skipped is of no weight. -/
theorem skipL_right : ∀ (k : Nat) (l : List UInt8), ∃ m, skipL k (bs l) = bs m ∧ rightL m = rightL l
  | 0, l => ⟨l, rfl, rfl⟩
  | k + 1, l => by
    rw [skipL]
    by_cases h : 32 < (bs l).size ∧ c32 (bs l) = true
    · rw [if_pos h, rst_bs]
      obtain ⟨h1, h2⟩ := h
      rw [bs_size] at h1
      obtain ⟨⟨a, b⟩, c, d⟩ := c32_low l h2
      obtain ⟨m, e1, e2⟩ := skipL_right k (l.drop 32)
      refine ⟨m, e1, ?_⟩
      have r1 := right8 l (by omega) a
      have r2 := right8 (l.drop 8) (by rw [List.length_drop]; omega) b
      have r3 := right8 (l.drop 16) (by rw [List.length_drop]; omega) c
      have r4 := right8 (l.drop 24) (by rw [List.length_drop]; omega) d
      rw [List.drop_drop] at r2 r3 r4
      rw [e2, r4, r3, r2, r1]
    · rw [if_neg h]
      exact ⟨l, rfl, rfl⟩
theorem skipA_right (l : List UInt8) : ∃ m, skipA (bs l) = bs m ∧ rightL m = rightL l := by
  unfold skipA
  by_cases h : 8 < (bs l).size ∧ c8 (bs l) = true
  · rw [if_pos h, rst_bs]
    obtain ⟨h1, h2⟩ := h
    rw [bs_size] at h1
    have r1 := right8 l (by omega) (c8_low l h2)
    unfold skipB
    by_cases g : 16 < (bs (l.drop 8)).size ∧ c16 (bs (l.drop 8)) = true
    · rw [if_pos g, rst_bs]
      obtain ⟨g1, g2⟩ := g
      rw [bs_size, List.length_drop] at g1
      obtain ⟨a, b⟩ := c16_low _ g2
      have r2 := right8 (l.drop 8) (by rw [List.length_drop]; omega) a
      have r3 := right8 ((l.drop 8).drop 8) (by rw [List.length_drop, List.length_drop]; omega) b
      obtain ⟨m, e1, e2⟩ := skipL_right (bs (l.drop 8)).size ((l.drop 8).drop 16)
      refine ⟨m, e1, ?_⟩
      rw [List.drop_drop] at r3
      rw [e2, r3, r2, r1]
    · rw [if_neg g]
      exact ⟨_, rfl, r1⟩
  · rw [if_neg h]
    exact ⟨l, rfl, rfl⟩
theorem vs_right : ∀ (k : Nat) (l : List UInt8), l.length < k → vsF k (bs l) = rightL l
  | 0, l, h => absurd h (Nat.not_lt_zero _)
  | k + 1, l, h => by
    by_cases h0 : l = []
    · subst h0
      rw [vsF_end _ _ (by rw [bs_size]; rfl)]
      rfl
    have hp : 0 < l.length := List.length_pos_iff.2 h0
    have hs : 0 < (bs l).size := by rw [bs_size]; exact hp
    have hb : bq (bs l) 0 = (bw l 0 : Int) := rfl
    by_cases h1 : bw l 0 < 128
    · rw [vsF_ascii _ _ hs (by omega), rst_bs]
      obtain ⟨m, e1, e2⟩ := skipA_right (l.drop 1)
      have hz := skipA_size (bs (l.drop 1))
      rw [e1, bs_size, bs_size, List.length_drop] at hz
      rw [e1, vs_right k m (by omega), e2, right_low 1 l hp (fun j hj => by have e : j = 0 := (by omega); rw [e]; exact h1)]
    · have st := step_rune (bs l) (by show 128 ≤ bw l 0; omega)
      have hbl : bl (bs l) = l := rfl
      rw [hbl] at st
      rw [rightL_step l h0]
      by_cases h2 : runeL l = 0
      · rw [if_pos h2] at st ⊢
        exact vsF_bad _ _ hs (by omega) st
      · rw [if_neg h2] at st ⊢
        rw [vsF_some _ _ _ hs (by omega) st, rst_bs, vs_right k _ (by rw [List.length_drop]; omega)]
theorem valid_right (l : List UInt8) : validP (bs l) = rightL l := by
  unfold validP
  exact vs_right _ l (by rw [bs_size]; omega)
theorem bw_append_left (u s : List UInt8) (i : Nat) (h : i < u.length) : bw (u ++ s) i = bw u i := by
  unfold bw
  rw [List.getD_eq_getElem?_getD, List.getElem?_append_left h, ← List.getD_eq_getElem?_getD]
theorem bw_take (l : List UInt8) (n i : Nat) (h : i < n) : bw (l.take n) i = bw l i := by
  unfold bw
  rw [List.getD_eq_getElem?_getD, List.getElem?_take, if_pos h, ← List.getD_eq_getElem?_getD]
/-- A sign's bytes. -/
theorem rune_cases (l : List UInt8) (h : runeL l ≠ 0) :
    (runeL l = 1 ∧ bw l 0 < 128) ∨
    (runeL l = 2 ∧ ¬ bw l 0 < 128 ∧ (194 ≤ bw l 0 ∧ bw l 0 < 224) ∧ 1 < l.length ∧ okc (bw l 1) ∧ fitv 128 ((bw l 0 - 192) * 64 + (bw l 1 - 128))) ∨
    (runeL l = 3 ∧ ¬ bw l 0 < 128 ∧ ¬ (194 ≤ bw l 0 ∧ bw l 0 < 224) ∧ (224 ≤ bw l 0 ∧ bw l 0 < 240) ∧ 2 < l.length ∧ okc (bw l 1) ∧ okc (bw l 2) ∧ fitv 2048 (((bw l 0 - 224) * 64 + (bw l 1 - 128)) * 64 + (bw l 2 - 128))) ∨
    (runeL l = 4 ∧ ¬ bw l 0 < 128 ∧ ¬ (194 ≤ bw l 0 ∧ bw l 0 < 224) ∧ ¬ (224 ≤ bw l 0 ∧ bw l 0 < 240) ∧ (240 ≤ bw l 0 ∧ bw l 0 < 245) ∧ 3 < l.length ∧ okc (bw l 1) ∧ okc (bw l 2) ∧ okc (bw l 3) ∧ fitv 65536 ((((bw l 0 - 240) * 64 + (bw l 1 - 128)) * 64 + (bw l 2 - 128)) * 64 + (bw l 3 - 128))) := by
  unfold runeL at h ⊢
  by_cases c0 : bw l 0 < 128
  · rw [if_pos c0]
    exact .inl ⟨rfl, c0⟩
  rw [if_neg c0] at h ⊢
  by_cases c1 : 194 ≤ bw l 0 ∧ bw l 0 < 224
  · rw [if_pos c1] at h ⊢
    by_cases g : 1 < l.length ∧ okc (bw l 1) ∧ fitv 128 ((bw l 0 - 192) * 64 + (bw l 1 - 128))
    · rw [if_pos g]
      exact .inr (.inl ⟨rfl, c0, c1, g⟩)
    · rw [if_neg g] at h
      exact absurd rfl h
  rw [if_neg c1] at h ⊢
  by_cases c2 : 224 ≤ bw l 0 ∧ bw l 0 < 240
  · rw [if_pos c2] at h ⊢
    by_cases g : 2 < l.length ∧ okc (bw l 1) ∧ okc (bw l 2) ∧ fitv 2048 (((bw l 0 - 224) * 64 + (bw l 1 - 128)) * 64 + (bw l 2 - 128))
    · rw [if_pos g]
      exact .inr (.inr (.inl ⟨rfl, c0, c1, c2, g⟩))
    · rw [if_neg g] at h
      exact absurd rfl h
  rw [if_neg c2] at h ⊢
  by_cases c3 : 240 ≤ bw l 0 ∧ bw l 0 < 245
  · rw [if_pos c3] at h ⊢
    by_cases g : 3 < l.length ∧ okc (bw l 1) ∧ okc (bw l 2) ∧ okc (bw l 3) ∧ fitv 65536 ((((bw l 0 - 240) * 64 + (bw l 1 - 128)) * 64 + (bw l 2 - 128)) * 64 + (bw l 3 - 128))
    · rw [if_pos g]
      exact .inr (.inr (.inr ⟨rfl, c0, c1, c2, c3, g⟩))
    · rw [if_neg g] at h
      exact absurd rfl h
  rw [if_neg c3] at h
  exact absurd rfl h
theorem rune_ext (l m : List UInt8) (h : runeL l ≠ 0) (hb : ∀ i, i < runeL l → bw m i = bw l i) (hl : runeL l ≤ m.length) : runeL m = runeL l := by
  rcases rune_cases l h with ⟨e, c0⟩ | ⟨e, c0, c1, g1, g2, g3⟩ | ⟨e, c0, c1, c2, g1, g2, g3, g4⟩ | ⟨e, c0, c1, c2, c3, g1, g2, g3, g4, g5⟩
  · rw [e] at hb hl ⊢
    have e0 := hb 0 (by omega)
    unfold runeL
    rw [e0, if_pos c0]
  · rw [e] at hb hl ⊢
    have e0 := hb 0 (by omega)
    have e1 := hb 1 (by omega)
    unfold runeL
    rw [e0, e1, if_neg c0, if_pos c1, if_pos ⟨by omega, g2, g3⟩]
  · rw [e] at hb hl ⊢
    have e0 := hb 0 (by omega)
    have e1 := hb 1 (by omega)
    have e2 := hb 2 (by omega)
    unfold runeL
    rw [e0, e1, e2, if_neg c0, if_neg c1, if_pos c2, if_pos ⟨by omega, g2, g3, g4⟩]
  · rw [e] at hb hl ⊢
    have e0 := hb 0 (by omega)
    have e1 := hb 1 (by omega)
    have e2 := hb 2 (by omega)
    have e3 := hb 3 (by omega)
    unfold runeL
    rw [e0, e1, e2, e3, if_neg c0, if_neg c1, if_neg c2, if_pos c3, if_pos ⟨by omega, g2, g3, g4, g5⟩]
theorem rune_le (l : List UInt8) (h : l ≠ []) : runeL l ≤ l.length := by
  by_cases h0 : runeL l = 0
  · omega
  have hp := List.length_pos_iff.2 h
  rcases rune_cases l h0 with ⟨e, c0⟩ | ⟨e, c0, c1, g1, g2, g3⟩ | ⟨e, c0, c1, c2, g1, g2, g3, g4⟩ | ⟨e, c0, c1, c2, c3, g1, g2, g3, g4, g5⟩ <;> omega
/-- A sign of more bytes than one: all are large. -/
theorem rune_big (l : List UInt8) (h : 2 ≤ runeL l) (i : Nat) (hi : i < runeL l) : 128 ≤ bw l i := by
  rcases rune_cases l (by omega) with ⟨e, c0⟩ | ⟨e, c0, c1, g1, g2, g3⟩ | ⟨e, c0, c1, c2, g1, g2, g3, g4⟩ | ⟨e, c0, c1, c2, c3, g1, g2, g3, g4, g5⟩
  · omega
  · unfold okc at g2
    have hi2 : i = 0 ∨ i = 1 := by omega
    rcases hi2 with rfl | rfl <;> omega
  · unfold okc at g2 g3
    have hi2 : i = 0 ∨ i = 1 ∨ i = 2 := by omega
    rcases hi2 with rfl | rfl | rfl <;> omega
  · unfold okc at g2 g3 g4
    have hi2 : i = 0 ∨ i = 1 ∨ i = 2 ∨ i = 3 := by omega
    rcases hi2 with rfl | rfl | rfl | rfl <;> omega
end Go.Abs.S
namespace Go.Proofs
open Go.Shelf
def Tryd.lays161_ren : Go.Shelf.Ren := ⟨fun | 161 => 44 | 231 => 58 | 227 => 59 | 233 => 60 | 235 => 61 | 228 => 75 | 197 => 53 | 151 => 76 | 260 => 70 | 152 => 85 | 137 => 71 | 119 => 94 | 224 => 95 | 225 => 96 | 217 => 79 | 266 => 86 | n => n, fun | 9 => 9 | 4 => 4 | 3 => 3 | 5 => 5 | 117 => 93 | 116 => 92 | 0 => 0 | 124 => 96 | 105 => 86 | 21 => 21 | 119 => 111 | 46 => 115 | 139 => 114 | 138 => 113 | n => n, fun | 3 => 2 | 4 => 3 | n => n⟩
theorem Tryd.lays161 : Go.Proofs.Lays.n161 Tryd.prog Tryd.lays161_ren := {
  mixed := by kernel_rfl
  f119 := Tryd.func94.trans (congrArg some (by kernel_rfl))
  f137 := Tryd.func71.trans (congrArg some (by kernel_rfl))
  f151 := Tryd.func76.trans (congrArg some (by kernel_rfl))
  f152 := Tryd.func85.trans (congrArg some (by kernel_rfl))
  f161 := Tryd.func44.trans (congrArg some (by kernel_rfl))
  f197 := Tryd.func53.trans (congrArg some (by kernel_rfl))
  f217 := Tryd.func79.trans (congrArg some (by kernel_rfl))
  f224 := Tryd.func95.trans (congrArg some (by kernel_rfl))
  f225 := Tryd.func96.trans (congrArg some (by kernel_rfl))
  f227 := Tryd.func59.trans (congrArg some (by kernel_rfl))
  f228 := Tryd.func75.trans (congrArg some (by kernel_rfl))
  f231 := Tryd.func58.trans (congrArg some (by kernel_rfl))
  f233 := Tryd.func60.trans (congrArg some (by kernel_rfl))
  f235 := Tryd.func61.trans (congrArg some (by kernel_rfl))
  f260 := Tryd.func70.trans (congrArg some (by kernel_rfl))
  f266 := Tryd.func86.trans (congrArg some (by kernel_rfl))
  t0 := Tryd.underlying0
  a0 := Tryd.isAgg0
  z0 := Tryd.sizeOf0
  v0 := Tryd.zeroValue0
  t3 := Tryd.underlying3
  a3 := Tryd.isAgg3
  z3 := Tryd.sizeOf3
  v3 := Tryd.zeroValue3
  t4 := Tryd.underlying4
  a4 := Tryd.isAgg4
  z4 := Tryd.sizeOf4
  v4 := Tryd.zeroValue4
  t5 := Tryd.underlying5
  a5 := Tryd.isAgg5
  z5 := Tryd.sizeOf5
  v5 := Tryd.zeroValue5
  t9 := Tryd.underlying9
  a9 := Tryd.isAgg9
  z9 := Tryd.sizeOf9
  v9 := Tryd.zeroValue9
  t21 := Tryd.underlying21
  a21 := Tryd.isAgg21
  z21 := Tryd.sizeOf21
  v21 := Tryd.zeroValue21
  t46 := Tryd.underlying115
  a46 := Tryd.isAgg115
  z46 := Tryd.sizeOf115
  v46 := Tryd.zeroValue115
  t105 := Tryd.underlying86
  a105 := Tryd.isAgg86
  z105 := Tryd.sizeOf86
  v105 := Tryd.zeroValue86
  t116 := Tryd.underlying92
  a116 := Tryd.isAgg92
  z116 := Tryd.sizeOf92
  t117 := Tryd.underlying93
  a117 := Tryd.isAgg93
  z117 := Tryd.sizeOf93
  v117 := Tryd.zeroValue93
  t119 := Tryd.underlying111
  a119 := Tryd.isAgg111
  z119 := Tryd.sizeOf111
  t124 := Tryd.underlying96
  a124 := Tryd.isAgg96
  z124 := Tryd.sizeOf96
  v124 := Tryd.zeroValue96
  t138 := Tryd.underlying113
  a138 := Tryd.isAgg113
  z138 := Tryd.sizeOf113
  v138 := Tryd.zeroValue113
  t139 := Tryd.underlying114
  a139 := Tryd.isAgg114
  z139 := Tryd.sizeOf114
  v139 := Tryd.zeroValue114
  g3 := by kernel_rfl
  g4 := by kernel_rfl }
def Tryd.lays160_ren : Go.Shelf.Ren := ⟨fun | 160 => 72 | 232 => 80 | 231 => 58 | 227 => 59 | 234 => 81 | 233 => 60 | 236 => 82 | 235 => 61 | 228 => 75 | 271 => 87 | 151 => 76 | 197 => 53 | 120 => 97 | 152 => 85 | 260 => 70 | 137 => 71 | 119 => 94 | 224 => 95 | 225 => 96 | 217 => 79 | 266 => 86 | n => n, fun | 9 => 9 | 4 => 4 | 3 => 3 | 5 => 5 | 117 => 93 | 116 => 92 | 0 => 0 | 124 => 96 | 21 => 21 | 105 => 86 | 46 => 115 | 119 => 111 | 139 => 114 | 138 => 113 | n => n, fun | 3 => 2 | 4 => 3 | n => n⟩
theorem Tryd.lays160 : Go.Proofs.Lays.n160 Tryd.prog Tryd.lays160_ren := {
  mixed := by kernel_rfl
  f119 := Tryd.func94.trans (congrArg some (by kernel_rfl))
  f120 := Tryd.func97.trans (congrArg some (by kernel_rfl))
  f137 := Tryd.func71.trans (congrArg some (by kernel_rfl))
  f151 := Tryd.func76.trans (congrArg some (by kernel_rfl))
  f152 := Tryd.func85.trans (congrArg some (by kernel_rfl))
  f160 := Tryd.func72.trans (congrArg some (by kernel_rfl))
  f197 := Tryd.func53.trans (congrArg some (by kernel_rfl))
  f217 := Tryd.func79.trans (congrArg some (by kernel_rfl))
  f224 := Tryd.func95.trans (congrArg some (by kernel_rfl))
  f225 := Tryd.func96.trans (congrArg some (by kernel_rfl))
  f227 := Tryd.func59.trans (congrArg some (by kernel_rfl))
  f228 := Tryd.func75.trans (congrArg some (by kernel_rfl))
  f231 := Tryd.func58.trans (congrArg some (by kernel_rfl))
  f232 := Tryd.func80.trans (congrArg some (by kernel_rfl))
  f233 := Tryd.func60.trans (congrArg some (by kernel_rfl))
  f234 := Tryd.func81.trans (congrArg some (by kernel_rfl))
  f235 := Tryd.func61.trans (congrArg some (by kernel_rfl))
  f236 := Tryd.func82.trans (congrArg some (by kernel_rfl))
  f260 := Tryd.func70.trans (congrArg some (by kernel_rfl))
  f266 := Tryd.func86.trans (congrArg some (by kernel_rfl))
  f271 := Tryd.func87.trans (congrArg some (by kernel_rfl))
  t0 := Tryd.underlying0
  a0 := Tryd.isAgg0
  z0 := Tryd.sizeOf0
  v0 := Tryd.zeroValue0
  t3 := Tryd.underlying3
  a3 := Tryd.isAgg3
  z3 := Tryd.sizeOf3
  v3 := Tryd.zeroValue3
  t4 := Tryd.underlying4
  a4 := Tryd.isAgg4
  z4 := Tryd.sizeOf4
  v4 := Tryd.zeroValue4
  t5 := Tryd.underlying5
  a5 := Tryd.isAgg5
  z5 := Tryd.sizeOf5
  v5 := Tryd.zeroValue5
  t9 := Tryd.underlying9
  a9 := Tryd.isAgg9
  z9 := Tryd.sizeOf9
  v9 := Tryd.zeroValue9
  t21 := Tryd.underlying21
  a21 := Tryd.isAgg21
  z21 := Tryd.sizeOf21
  v21 := Tryd.zeroValue21
  t46 := Tryd.underlying115
  a46 := Tryd.isAgg115
  z46 := Tryd.sizeOf115
  v46 := Tryd.zeroValue115
  t105 := Tryd.underlying86
  a105 := Tryd.isAgg86
  z105 := Tryd.sizeOf86
  v105 := Tryd.zeroValue86
  t116 := Tryd.underlying92
  a116 := Tryd.isAgg92
  z116 := Tryd.sizeOf92
  t117 := Tryd.underlying93
  a117 := Tryd.isAgg93
  z117 := Tryd.sizeOf93
  v117 := Tryd.zeroValue93
  t119 := Tryd.underlying111
  a119 := Tryd.isAgg111
  z119 := Tryd.sizeOf111
  t124 := Tryd.underlying96
  a124 := Tryd.isAgg96
  z124 := Tryd.sizeOf96
  v124 := Tryd.zeroValue96
  t138 := Tryd.underlying113
  a138 := Tryd.isAgg113
  z138 := Tryd.sizeOf113
  v138 := Tryd.zeroValue113
  t139 := Tryd.underlying114
  a139 := Tryd.isAgg114
  z139 := Tryd.sizeOf114
  v139 := Tryd.zeroValue114
  g3 := by kernel_rfl
  g4 := by kernel_rfl }
def Tryd.lays137_ren : Go.Shelf.Ren := ⟨fun | 137 => 71 | 217 => 79 | 266 => 86 | n => n, fun | 9 => 9 | 5 => 5 | 3 => 3 | n => n, fun | n => n⟩
theorem Tryd.lays137 : Go.Proofs.Lays.n137 Tryd.prog Tryd.lays137_ren := {
  mixed := by kernel_rfl
  f137 := Tryd.func71.trans (congrArg some (by kernel_rfl))
  f217 := Tryd.func79.trans (congrArg some (by kernel_rfl))
  f266 := Tryd.func86.trans (congrArg some (by kernel_rfl))
  t3 := Tryd.underlying3
  a3 := Tryd.isAgg3
  z3 := Tryd.sizeOf3
  v3 := Tryd.zeroValue3
  t5 := Tryd.underlying5
  a5 := Tryd.isAgg5
  z5 := Tryd.sizeOf5
  v5 := Tryd.zeroValue5
  t9 := Tryd.underlying9
  a9 := Tryd.isAgg9
  z9 := Tryd.sizeOf9
  v9 := Tryd.zeroValue9 }
open Go.RowKit in
/-- strings.IndexByte: "IndexByte returns the index of the first instance of c in s, or -1 if c is not present in s.": IT RETURNS 'Lib.indexByte s c'; the world is as it was. (LAID: no walk: one application.) -/
theorem Tryd.strings_IndexByte (s : ByteArray) (c : Int) (w : World) :
    Calls Tryd.prog 71 #[.string s, .int .u8 c] w fun e w' => e = .returned (.int .i64 (Lib.indexByte s.data.toList c.toNat.toUInt8)) ∧ w' = w := Any.strings_IndexByte Tryd.lays137 s c w
def Tryd.lays103_ren : Go.Shelf.Ren := ⟨fun | 103 => 50 | 210 => 68 | 206 => 74 | n => n, fun | 9 => 9 | 4 => 4 | 24 => 82 | 3 => 3 | n => n, fun | n => n⟩
theorem Tryd.lays103 : Go.Proofs.Lays.n103 Tryd.prog Tryd.lays103_ren := {
  mixed := by kernel_rfl
  f103 := Tryd.func50.trans (congrArg some (by kernel_rfl))
  f206 := Tryd.func74.trans (congrArg some (by kernel_rfl))
  f210 := Tryd.func68.trans (congrArg some (by kernel_rfl))
  t3 := Tryd.underlying3
  a3 := Tryd.isAgg3
  z3 := Tryd.sizeOf3
  v3 := Tryd.zeroValue3
  t4 := Tryd.underlying4
  a4 := Tryd.isAgg4
  z4 := Tryd.sizeOf4
  v4 := Tryd.zeroValue4
  t9 := Tryd.underlying9
  a9 := Tryd.isAgg9
  z9 := Tryd.sizeOf9
  v9 := Tryd.zeroValue9
  t24 := Tryd.underlying82
  a24 := Tryd.isAgg82
  z24 := Tryd.sizeOf82
  v24 := Tryd.zeroValue82 }
open Go.RowKit in
/-- strings.CutPrefix: "CutPrefix returns s without the provided leading prefix string and reports whether it found the prefix. If s doesn't start with prefix, CutPrefix returns s, false. If prefix is the empty string, CutPrefix returns s, true.": IT RETURNS '(Lib.trimPrefix s p, Lib.hasPrefix s p)'; the world is as it was. (LAID: no walk: one application.) -/
theorem Tryd.strings_CutPrefix (s p : ByteArray) (w : World) :
    Calls Tryd.prog 50 #[.string s, .string p] w fun e w' => e = .returned (.tuple #[.string ⟨(Lib.trimPrefix s.data.toList p.data.toList).toArray⟩, .bool (Lib.hasPrefix s.data.toList p.data.toList)]) ∧ w' = w := Any.strings_CutPrefix Tryd.lays103 s p w
def Tryd.laysGw15_ren : Go.Shelf.Ren := ⟨fun | 15 => 51 | 20 => 69 | n => n, fun | 9 => 9 | 23 => 85 | 3 => 3 | 4 => 4 | 0 => 0 | 21 => 21 | n => n, fun | n => n⟩
theorem Tryd.laysGw15 : Go.Proofs.LaysGw.n15 Tryd.prog Tryd.laysGw15_ren := {
  mixed := by kernel_rfl
  f15 := Tryd.func51.trans (congrArg some (by kernel_rfl))
  f20 := Tryd.func69.trans (congrArg some (by kernel_rfl))
  t0 := Tryd.underlying0
  a0 := Tryd.isAgg0
  z0 := Tryd.sizeOf0
  v0 := Tryd.zeroValue0
  i0 := by kernel_rfl
  t3 := Tryd.underlying3
  a3 := Tryd.isAgg3
  z3 := Tryd.sizeOf3
  v3 := Tryd.zeroValue3
  i3 := by kernel_rfl
  t4 := Tryd.underlying4
  a4 := Tryd.isAgg4
  z4 := Tryd.sizeOf4
  v4 := Tryd.zeroValue4
  i4 := by kernel_rfl
  t9 := Tryd.underlying9
  a9 := Tryd.isAgg9
  z9 := Tryd.sizeOf9
  v9 := Tryd.zeroValue9
  i9 := by kernel_rfl
  t21 := Tryd.underlying21
  a21 := Tryd.isAgg21
  z21 := Tryd.sizeOf21
  v21 := Tryd.zeroValue21
  i21 := by kernel_rfl
  t23 := Tryd.underlying85
  a23 := Tryd.isAgg85
  z23 := Tryd.sizeOf85
  v23 := Tryd.zeroValue85
  i23 := by kernel_rfl }
def Tryd.lays197_ren : Go.Shelf.Ren := ⟨fun | 197 => 53 | 260 => 70 | n => n, fun | 9 => 9 | 21 => 21 | 3 => 3 | 4 => 4 | 5 => 5 | 105 => 86 | 119 => 111 | 0 => 0 | 46 => 115 | 139 => 114 | 138 => 113 | n => n, fun | 3 => 2 | 4 => 3 | n => n⟩
theorem Tryd.lays197 : Go.Proofs.Lays.n197 Tryd.prog Tryd.lays197_ren := {
  mixed := by kernel_rfl
  f197 := Tryd.func53.trans (congrArg some (by kernel_rfl))
  f260 := Tryd.func70.trans (congrArg some (by kernel_rfl))
  t0 := Tryd.underlying0
  a0 := Tryd.isAgg0
  z0 := Tryd.sizeOf0
  v0 := Tryd.zeroValue0
  t3 := Tryd.underlying3
  a3 := Tryd.isAgg3
  z3 := Tryd.sizeOf3
  v3 := Tryd.zeroValue3
  t4 := Tryd.underlying4
  a4 := Tryd.isAgg4
  z4 := Tryd.sizeOf4
  v4 := Tryd.zeroValue4
  t5 := Tryd.underlying5
  a5 := Tryd.isAgg5
  z5 := Tryd.sizeOf5
  v5 := Tryd.zeroValue5
  t9 := Tryd.underlying9
  a9 := Tryd.isAgg9
  z9 := Tryd.sizeOf9
  v9 := Tryd.zeroValue9
  t21 := Tryd.underlying21
  a21 := Tryd.isAgg21
  z21 := Tryd.sizeOf21
  v21 := Tryd.zeroValue21
  t46 := Tryd.underlying115
  a46 := Tryd.isAgg115
  z46 := Tryd.sizeOf115
  v46 := Tryd.zeroValue115
  t105 := Tryd.underlying86
  a105 := Tryd.isAgg86
  z105 := Tryd.sizeOf86
  v105 := Tryd.zeroValue86
  t119 := Tryd.underlying111
  a119 := Tryd.isAgg111
  z119 := Tryd.sizeOf111
  t138 := Tryd.underlying113
  a138 := Tryd.isAgg113
  z138 := Tryd.sizeOf113
  v138 := Tryd.zeroValue113
  t139 := Tryd.underlying114
  a139 := Tryd.isAgg114
  z139 := Tryd.sizeOf114
  v139 := Tryd.zeroValue114
  g3 := by kernel_rfl
  g4 := by kernel_rfl }
open Go.RowKit Go.Lib in
/-- **unicode/utf8.DecodeRuneInString AT EVERY STRING.** (LAID: no walk: one application.) -/
theorem Tryd.utf8_DecodeRuneInString (s : ByteArray) (w : World) (hT : Lib.Utf8Tabs 2 3 w) :
    Calls Tryd.prog 53 #[.string s] w fun e w' => e = .returned (.tuple #[.int .i32 (Lib.decodeGo s).1, .int .i64 (Lib.decodeGo s).2]) ∧ Below w.heap.size w w' := Any.utf8_DecodeRuneInString Tryd.lays197 s w hT
open Go.RowKit Go.Lib in
theorem Tryd.strings_IndexFunc_grows (g : Nat) (lb : Array Value) (eg : ∀ args w, (callFunc g args).run Tryd.prog w = .ok (.enter g args) w) (p : Nat → Bool) (s : ByteArray) (w : World) (hp : PredGrows Tryd.prog g lb p w) :
    Calls Tryd.prog 51 #[.string s, .func (.func g) #[] lb] w fun e w' => e = .returned (.int .i64 (Lib.idxFunc p true s)) ∧ Below w.heap.size w w' := Any.strings_IndexFunc_grows Tryd.laysGw15 g lb eg p s w hp
end Go.Proofs
namespace Go.Abs.S
open Go.Proofs
set_option maxRecDepth 100000
def impCodP : FuncId → Bool := fun f => f == 26 || f == 27 || f == 29 || f == 30 || f == 31 || f == 37 || f == 39 || f == 40 || f == 41 || f == 42 || f == 48 || f == 54 || f == 55 || f == 75
/-- (*escutcheon/page.reader).blanks -/
def lc30 : LCode := .reg []
  [o1 2 (.move (.tmp 0)),
  o1 3 (.move (.tmp 0)),
  o1 4 (.nilCheck (.tmp 3)),
  o1 5 (.fieldAddr 64 (.tmp 4) 0),
  o1 6 (.load 9 (.tmp 5)),
  o1 7 (.call ⟨.value (.func 44), #[.tmp 6, .const (.string { data := #[32, 9, 10, 13] })], #[9, 9]⟩),
  o1 8 (.nilCheck (.tmp 2)),
  o1 9 (.fieldAddr 64 (.tmp 8) 0),
  o3 (.store 9 (.tmp 9) (.tmp 7))]
theorem ls30 : Tryd.f30.body.map (strip Tryd.prog impCodP) = some lc30 := by kernel_rfl
theorem lcall30 : LC 30 10 lc30 [] := LC.of Tryd.func30 (by kernel_rfl) ls30 (by kernel_rfl) (by kernel_rfl)
/-- (*escutcheon/page.reader).give -/
def lc31 : LCode := .seq (.reg []
  [o1 4 (.move (.tmp 0)),
  o1 5 (.nilCheck (.tmp 4)),
  o1 6 (.fieldAddr 64 (.tmp 5) 1),
  o1 7 (.load 34 (.tmp 6)),
  o1 8 (.binOp .eql 34 (.tmp 7) (.const (.int .i64 0)) 34)]) (.cond (.tmp 8) (.reg []
  [o1 9 (.move (.tmp 0)),
  o1 10 (.move (.tmp 0)),
  o1 11 (.move (.tmp 1)),
  o1 12 (.nilCheck (.tmp 9)),
  o1 13 (.fieldAddr 64 (.tmp 12) 1),
  o3 (.store 34 (.tmp 13) (.tmp 11)),
  o1 14 (.nilCheck (.tmp 10)),
  o1 15 (.fieldAddr 64 (.tmp 14) 0),
  o3 (.store 9 (.tmp 15) (.const (.string { data := #[] })))]) (.skip))
theorem ls31 : Tryd.f31.body.map (strip Tryd.prog impCodP) = some lc31 := by kernel_rfl
theorem lcall31 : LC 31 16 lc31 [] := LC.of Tryd.func31 (by kernel_rfl) ls31 (by kernel_rfl) (by kernel_rfl)
/-- (*escutcheon/page.reader).take -/
def lc40 : LCode := .seq (.reg []
  [o1 4 (.assign (.const (.bool false)))]) (.seq (.reg []
  [o1 8 (.move (.tmp 0)),
  o1 9 (.nilCheck (.tmp 8)),
  o1 10 (.fieldAddr 64 (.tmp 9) 0),
  o1 11 (.load 9 (.tmp 10)),
  o1 12 (.move (.tmp 1)),
  o1 13 (.call ⟨.value (.func 50), #[.tmp 11, .tmp 12], #[9, 9]⟩),
  o1 7 (.move (.tmp 13)),
  o1 14 (.extract (.tmp 7) 0),
  o1 15 (.extract (.tmp 7) 1),
  o1 5 (.assign (.tmp 14)),
  o1 6 (.assign (.tmp 15))]) (.seq (.reg []
  [o1 16 (.move (.tmp 0)),
  o1 17 (.move (.tmp 5)),
  o1 18 (.nilCheck (.tmp 16)),
  o1 19 (.fieldAddr 64 (.tmp 18) 0),
  o3 (.store 9 (.tmp 19) (.tmp 17))]) (.seq (.reg []
  [o1 20 (.move (.tmp 6)),
  o1 4 (.assign (.tmp 20))]) (.ret))))
theorem ls40 : Tryd.f40.body.map (strip Tryd.prog impCodP) = some lc40 := by kernel_rfl
theorem lcall40 : LC 40 21 lc40 [.tmp 4] := LC.of Tryd.func40 (by kernel_rfl) ls40 (by kernel_rfl) (by kernel_rfl)
/-- (*escutcheon/page.reader).escape -/
def lc54 : LCode := .seq (.reg []
  [o1 2 (.assign (.const (.string { data := #[] })))]) (.seq (.seq (.reg []
  [o1 7 (.move (.tmp 0)),
  o1 8 (.nilCheck (.tmp 7)),
  o1 9 (.fieldAddr 64 (.tmp 8) 0),
  o1 10 (.load 9 (.tmp 9)),
  o1 11 (.binOp .eql 9 (.tmp 10) (.const (.string { data := #[] })) 9)]) (.cond (.tmp 11) (.seq (.reg []
  [o1 12 (.move (.tmp 0)),
  o1 13 (.call ⟨.value (.func 31), #[.tmp 12, .const (.int .i64 2)], #[62, 34]⟩)]) (.seq (.reg []
  [o1 2 (.assign (.const (.string { data := #[] })))]) (.ret))) (.skip))) (.seq (.reg []
  [o1 14 (.move (.tmp 0)),
  o1 15 (.nilCheck (.tmp 14)),
  o1 16 (.fieldAddr 64 (.tmp 15) 0),
  o1 17 (.load 9 (.tmp 16)),
  o1 18 (.index 9 (.tmp 17) (.const (.int .i64 0))),
  o1 3 (.assign (.tmp 18))]) (.seq (.reg []
  [o1 19 (.move (.tmp 0)),
  o1 20 (.move (.tmp 0)),
  o1 21 (.nilCheck (.tmp 20)),
  o1 22 (.fieldAddr 64 (.tmp 21) 0),
  o1 23 (.load 9 (.tmp 22)),
  o1 24 (.slice 9 (.tmp 23) (some (.const (.int .i64 1))) none none),
  o1 25 (.nilCheck (.tmp 19)),
  o1 26 (.fieldAddr 64 (.tmp 25) 0),
  o3 (.store 9 (.tmp 26) (.tmp 24))]) (.seq (.seq (.reg []
  [o1 27 (.move (.tmp 3)),
  o1 28 (.call ⟨.value (.func 71), #[.const (.string { data := #[34, 92, 47, 98, 102, 110, 114, 116] }), .tmp 27], #[9, 5]⟩),
  o1 4 (.assign (.tmp 28))]) (.seq (.reg []
  [o1 29 (.move (.tmp 4)),
  o1 30 (.binOp .geq 3 (.tmp 29) (.const (.int .i64 0)) 3)]) (.cond (.tmp 30) (.seq (.reg []
  [o1 31 (.move (.tmp 4)),
  o1 32 (.move (.tmp 4)),
  o1 33 (.binOp .add 3 (.tmp 32) (.const (.int .i64 1)) 3),
  o1 34 (.slice 9 (.const (.string { data := #[34, 92, 47, 8, 12, 10, 13, 9] })) (some (.tmp 31)) (some (.tmp 33)) none),
  o1 2 (.assign (.tmp 34))]) (.ret)) (.skip)))) (.seq (.seq (.reg []
  [o1 35 (.move (.tmp 3)),
  o1 36 (.binOp .neq 5 (.tmp 35) (.const (.int .u8 117)) 5),
  o1 37 (.move (.tmp 36)),
  o2 38 (.move (.tmp 0)) 37 false,
  o2 39 (.nilCheck (.tmp 38)) 37 false,
  o2 40 (.fieldAddr 64 (.tmp 39) 0) 37 false,
  o2 41 (.load 9 (.tmp 40)) 37 false,
  o2 42 (.call ⟨.builtin .len, #[.tmp 41], #[9]⟩) 37 false,
  o2 43 (.binOp .lss 3 (.tmp 42) (.const (.int .i64 4)) 3) 37 false,
  o1 44 (.pick (.tmp 37) (.const (.bool true)) (.tmp 43)),
  o1 45 (.move (.tmp 44)),
  o2 46 (.move (.tmp 0)) 45 false,
  o2 47 (.nilCheck (.tmp 46)) 45 false,
  o2 48 (.fieldAddr 64 (.tmp 47) 0) 45 false,
  o2 49 (.load 9 (.tmp 48)) 45 false,
  o2 50 (.slice 9 (.tmp 49) none (some (.const (.int .i64 4))) none) 45 false,
  o2 51 (.call ⟨.value (.func 72), #[.tmp 50, .const (.string { data := #[48, 49, 50, 51, 52, 53, 54, 55, 56, 57, 97, 98, 99, 100, 101, 102, 65, 66, 67, 68, 69, 70] })], #[9, 9]⟩) 45 false,
  o2 52 (.binOp .neq 9 (.tmp 51) (.const (.string { data := #[] })) 9) 45 false,
  o1 53 (.pick (.tmp 45) (.const (.bool true)) (.tmp 52))]) (.cond (.tmp 53) (.seq (.reg []
  [o1 54 (.move (.tmp 0)),
  o1 55 (.call ⟨.value (.func 31), #[.tmp 54, .const (.int .i64 2)], #[62, 34]⟩)]) (.seq (.reg []
  [o1 2 (.assign (.const (.string { data := #[] })))]) (.ret))) (.skip))) (.seq (.reg []
  [o1 57 (.move (.tmp 0)),
  o1 58 (.nilCheck (.tmp 57)),
  o1 59 (.fieldAddr 64 (.tmp 58) 0),
  o1 60 (.load 9 (.tmp 59)),
  o1 61 (.slice 9 (.tmp 60) none (some (.const (.int .i64 4))) none),
  o1 62 (.call ⟨.value (.func 73), #[.tmp 61, .const (.int .i64 16), .const (.int .i64 32)], #[9, 3, 3]⟩),
  o1 56 (.move (.tmp 62)),
  o1 63 (.extract (.tmp 56) 0),
  o1 64 (.extract (.tmp 56) 1),
  o1 5 (.assign (.tmp 63)),
  o1 6 (.assign (.tmp 64))]) (.seq (.reg []
  [o1 65 (.move (.tmp 0)),
  o1 66 (.move (.tmp 0)),
  o1 67 (.nilCheck (.tmp 66)),
  o1 68 (.fieldAddr 64 (.tmp 67) 0),
  o1 69 (.load 9 (.tmp 68)),
  o1 70 (.slice 9 (.tmp 69) (some (.const (.int .i64 4))) none none),
  o1 71 (.nilCheck (.tmp 65)),
  o1 72 (.fieldAddr 64 (.tmp 71) 0),
  o3 (.store 9 (.tmp 72) (.tmp 70))]) (.seq (.seq (.reg []
  [o1 73 (.move (.tmp 5)),
  o1 74 (.binOp .geq 105 (.tmp 73) (.const (.int .u64 55296)) 105),
  o1 75 (.move (.tmp 74)),
  o2 76 (.move (.tmp 5)) 75 true,
  o2 77 (.binOp .lss 105 (.tmp 76) (.const (.int .u64 57344)) 105) 75 true,
  o1 78 (.pick (.tmp 75) (.tmp 77) (.const (.bool false)))]) (.cond (.tmp 78) (.seq (.reg []
  [o1 79 (.move (.tmp 0)),
  o1 80 (.call ⟨.value (.func 31), #[.tmp 79, .const (.int .i64 2)], #[62, 34]⟩)]) (.seq (.reg []
  [o1 2 (.assign (.const (.string { data := #[] })))]) (.ret))) (.skip))) (.seq (.reg []
  [o1 81 (.move (.tmp 5)),
  o1 82 (.convert 105 21 (.tmp 81)),
  o1 83 (.convert 21 9 (.tmp 82)),
  o1 2 (.assign (.tmp 83))]) (.ret))))))))))
theorem ls54 : Tryd.f54.body.map (strip Tryd.prog impCodP) = some lc54 := by kernel_rfl
theorem lcall54 : LC 54 84 lc54 [.tmp 2] := LC.of Tryd.func54 (by kernel_rfl) ls54 (by kernel_rfl) (by kernel_rfl)
/-- (*escutcheon/page.reader).text -/
def lc41 : LCode := .seq (.reg []
  [o1 2 (.assign (.const (.string { data := #[] })))]) (.seq (.reg []
  [o1 3 (.alloc 59)]) (.seq (.block 0 (.loop (.seq (.seq (.reg []
  [o1 7 (.move (.tmp 0)),
  o1 8 (.nilCheck (.tmp 7)),
  o1 9 (.fieldAddr 64 (.tmp 8) 1),
  o1 10 (.load 34 (.tmp 9)),
  o1 11 (.binOp .eql 34 (.tmp 10) (.const (.int .i64 0)) 34)]) (.cond (.tmp 11) (.skip) (.exit 0))) (.block 1 (.seq (.reg []
  [o1 12 (.move (.tmp 0)),
  o1 13 (.nilCheck (.tmp 12)),
  o1 14 (.fieldAddr 64 (.tmp 13) 0),
  o1 15 (.load 9 (.tmp 14)),
  o1 16 (.call ⟨.value (.func 51), #[.tmp 15, .func 52], #[9, 85]⟩),
  o1 4 (.assign (.tmp 16))]) (.seq (.seq (.reg []
  [o1 17 (.move (.tmp 4)),
  o1 18 (.binOp .lss 3 (.tmp 17) (.const (.int .i64 0)) 3)]) (.cond (.tmp 18) (.seq (.reg []
  [o1 19 (.move (.tmp 0)),
  o1 20 (.call ⟨.value (.func 31), #[.tmp 19, .const (.int .i64 2)], #[62, 34]⟩)]) (.exit 0)) (.skip))) (.seq (.reg []
  [o1 21 (.move (.tmp 0)),
  o1 22 (.nilCheck (.tmp 21)),
  o1 23 (.fieldAddr 64 (.tmp 22) 0),
  o1 24 (.load 9 (.tmp 23)),
  o1 25 (.move (.tmp 4)),
  o1 26 (.slice 9 (.tmp 24) none (some (.tmp 25)) none),
  o1 27 (.call ⟨.value (.func 37), #[.tmp 3, .tmp 26], #[59, 9]⟩)]) (.seq (.reg []
  [o1 28 (.move (.tmp 0)),
  o1 29 (.move (.tmp 0)),
  o1 30 (.nilCheck (.tmp 29)),
  o1 31 (.fieldAddr 64 (.tmp 30) 0),
  o1 32 (.load 9 (.tmp 31)),
  o1 33 (.move (.tmp 4)),
  o1 34 (.slice 9 (.tmp 32) (some (.tmp 33)) none none),
  o1 35 (.nilCheck (.tmp 28)),
  o1 36 (.fieldAddr 64 (.tmp 35) 0),
  o3 (.store 9 (.tmp 36) (.tmp 34))]) (.seq (.reg []
  [o1 38 (.move (.tmp 0)),
  o1 39 (.nilCheck (.tmp 38)),
  o1 40 (.fieldAddr 64 (.tmp 39) 0),
  o1 41 (.load 9 (.tmp 40)),
  o1 42 (.call ⟨.value (.func 53), #[.tmp 41], #[9]⟩),
  o1 37 (.move (.tmp 42)),
  o1 43 (.extract (.tmp 37) 0),
  o1 44 (.extract (.tmp 37) 1),
  o1 5 (.assign (.tmp 43)),
  o1 6 (.assign (.tmp 44))]) (.block 2 (.seq (.reg []
  [o1 48 (.move (.tmp 5)),
  o1 49 (.binOp .eql 21 (.tmp 48) (.const (.int .i32 65533)) 21),
  o1 50 (.move (.tmp 49)),
  o2 51 (.move (.tmp 6)) 50 true,
  o2 52 (.binOp .gtr 3 (.tmp 51) (.const (.int .i64 1)) 3) 50 true,
  o1 53 (.pick (.tmp 50) (.tmp 52) (.const (.bool false))),
  o1 47 (.assign (.tmp 53))]) (.cond (.tmp 47) (.seq (.reg []
  [o1 54 (.move (.tmp 0)),
  o1 55 (.nilCheck (.tmp 54)),
  o1 56 (.fieldAddr 64 (.tmp 55) 0),
  o1 57 (.load 9 (.tmp 56)),
  o1 58 (.move (.tmp 6)),
  o1 59 (.slice 9 (.tmp 57) none (some (.tmp 58)) none),
  o1 60 (.call ⟨.value (.func 37), #[.tmp 3, .tmp 59], #[59, 9]⟩)]) (.reg []
  [o1 61 (.move (.tmp 0)),
  o1 62 (.move (.tmp 0)),
  o1 63 (.nilCheck (.tmp 62)),
  o1 64 (.fieldAddr 64 (.tmp 63) 0),
  o1 65 (.load 9 (.tmp 64)),
  o1 66 (.move (.tmp 6)),
  o1 67 (.slice 9 (.tmp 65) (some (.tmp 66)) none none),
  o1 68 (.nilCheck (.tmp 61)),
  o1 69 (.fieldAddr 64 (.tmp 68) 0),
  o3 (.store 9 (.tmp 69) (.tmp 67))])) (.seq (.reg []
  [o1 71 (.move (.tmp 0)),
  o1 72 (.call ⟨.value (.func 40), #[.tmp 71, .const (.string { data := #[34] })], #[62, 9]⟩),
  o1 70 (.assign (.tmp 72))]) (.cond (.tmp 70) (.seq (.reg []
  [o1 73 (.call ⟨.value (.func 27), #[.tmp 3], #[59]⟩),
  o1 2 (.assign (.tmp 73))]) (.ret)) (.seq (.reg []
  [o1 75 (.move (.tmp 0)),
  o1 76 (.call ⟨.value (.func 40), #[.tmp 75, .const (.string { data := #[92] })], #[62, 9]⟩),
  o1 74 (.assign (.tmp 76))]) (.cond (.tmp 74) (.reg []
  [o1 77 (.move (.tmp 0)),
  o1 78 (.call ⟨.value (.func 54), #[.tmp 77], #[62]⟩),
  o1 79 (.call ⟨.value (.func 37), #[.tmp 3, .tmp 78], #[59, 9]⟩)]) (.reg []
  [o1 45 (.move (.tmp 0)),
  o1 46 (.call ⟨.value (.func 31), #[.tmp 45, .const (.int .i64 2)], #[62, 34]⟩)]))))))))))))))))) (.seq (.reg []
  [o1 2 (.assign (.const (.string { data := #[] })))]) (.ret))))
def ms41_0 : List Nat := [1, 2, 4, 5, 6, 7, 8, 9, 10, 11, 12, 13, 14, 15, 16, 17, 18, 19, 20, 21, 22, 23, 24, 25, 26, 27, 28, 29, 30, 31, 32, 33, 34, 35, 36, 37, 38, 39, 40, 41, 42, 43, 44, 45, 46, 47, 48, 49, 50, 51, 52, 53, 54, 55, 56, 57, 58, 59, 60, 61, 62, 63, 64, 65, 66, 67, 68, 69, 70, 71, 72, 73, 74, 75, 76, 77, 78, 79]
theorem ls41 : Tryd.f41.body.map (strip Tryd.prog impCodP) = some lc41 := by kernel_rfl
theorem lcall41 : LC 41 80 lc41 [.tmp 2] := LC.of Tryd.func41 (by kernel_rfl) ls41 (by kernel_rfl) (by kernel_rfl)
/-- (*escutcheon/page.reader).text$1 -/
def lc52 : LCode := .seq (.reg []
  [o1 2 (.assign (.const (.bool false)))]) (.seq (.reg []
  [o1 3 (.move (.tmp 0)),
  o1 4 (.binOp .eql 21 (.tmp 3) (.const (.int .i32 34)) 21),
  o1 5 (.move (.tmp 4)),
  o2 6 (.move (.tmp 0)) 5 false,
  o2 7 (.binOp .eql 21 (.tmp 6) (.const (.int .i32 92)) 21) 5 false,
  o1 8 (.pick (.tmp 5) (.const (.bool true)) (.tmp 7)),
  o1 9 (.move (.tmp 8)),
  o2 10 (.move (.tmp 0)) 9 false,
  o2 11 (.binOp .lss 21 (.tmp 10) (.const (.int .i32 32)) 21) 9 false,
  o1 12 (.pick (.tmp 9) (.const (.bool true)) (.tmp 11)),
  o1 13 (.move (.tmp 12)),
  o2 14 (.move (.tmp 0)) 13 false,
  o2 15 (.binOp .eql 21 (.tmp 14) (.const (.int .i32 65533)) 21) 13 false,
  o1 16 (.pick (.tmp 13) (.const (.bool true)) (.tmp 15)),
  o1 2 (.assign (.tmp 16))]) (.ret))
theorem ls52 : Tryd.f52.body.map (strip Tryd.prog impCodP) = some lc52 := by kernel_rfl
theorem lcall52 : LC 52 17 lc52 [.tmp 2] := LC.of Tryd.func52 (by kernel_rfl) ls52 (by kernel_rfl) (by kernel_rfl)
/-- (*escutcheon/page.reader).name -/
def lc55 : LCode := .seq (.reg []
  [o1 4 (.assign (.const (.string { data := #[] })))]) (.seq (.reg []
  [o1 6 (.move (.tmp 0)),
  o1 7 (.call ⟨.value (.func 30), #[.tmp 6], #[62]⟩)]) (.seq (.seq (.reg []
  [o1 8 (.move (.tmp 0)),
  o1 9 (.call ⟨.value (.func 40), #[.tmp 8, .const (.string { data := #[34] })], #[62, 9]⟩),
  o1 10 (.unOp .not 4 (.tmp 9))]) (.cond (.tmp 10) (.reg []
  [o1 11 (.move (.tmp 0)),
  o1 12 (.call ⟨.value (.func 31), #[.tmp 11, .const (.int .i64 2)], #[62, 34]⟩)]) (.skip))) (.seq (.reg []
  [o1 13 (.move (.tmp 0)),
  o1 14 (.call ⟨.value (.func 41), #[.tmp 13], #[62]⟩),
  o1 5 (.assign (.tmp 14))]) (.seq (.seq (.reg []
  [o1 15 (.move (.tmp 0)),
  o1 16 (.nilCheck (.tmp 15)),
  o1 17 (.fieldAddr 64 (.tmp 16) 1),
  o1 18 (.load 34 (.tmp 17)),
  o1 19 (.binOp .eql 34 (.tmp 18) (.const (.int .i64 0)) 34),
  o1 20 (.move (.tmp 19)),
  o2 21 (.move (.tmp 1)) 20 true,
  o2 22 (.move (.tmp 5)) 20 true,
  o2 23 (.call ⟨.value (.func 65), #[.tmp 21, .tmp 22], #[23, 9]⟩) 20 true,
  o1 24 (.pick (.tmp 20) (.tmp 23) (.const (.bool false)))]) (.cond (.tmp 24) (.reg []
  [o1 25 (.move (.tmp 0)),
  o1 26 (.call ⟨.value (.func 31), #[.tmp 25, .const (.int .i64 10)], #[62, 34]⟩)]) (.skip))) (.seq (.reg []
  [o1 27 (.move (.tmp 0)),
  o1 28 (.call ⟨.value (.func 30), #[.tmp 27], #[62]⟩)]) (.seq (.seq (.reg []
  [o1 29 (.move (.tmp 0)),
  o1 30 (.call ⟨.value (.func 40), #[.tmp 29, .const (.string { data := #[58] })], #[62, 9]⟩),
  o1 31 (.unOp .not 4 (.tmp 30))]) (.cond (.tmp 31) (.reg []
  [o1 32 (.move (.tmp 0)),
  o1 33 (.call ⟨.value (.func 31), #[.tmp 32, .const (.int .i64 2)], #[62, 34]⟩)]) (.skip))) (.seq (.reg []
  [o1 34 (.move (.tmp 5)),
  o1 4 (.assign (.tmp 34))]) (.ret))))))))
theorem ls55 : Tryd.f55.body.map (strip Tryd.prog impCodP) = some lc55 := by kernel_rfl
theorem lcall55 : LC 55 35 lc55 [.tmp 4] := LC.of Tryd.func55 (by kernel_rfl) ls55 (by kernel_rfl) (by kernel_rfl)
/-- (*escutcheon/page.reader).parts -/
def lc42 : LCode := .seq (.reg []
  [o1 5 (.box 26 (.tmp 1)),
  o1 8 (.alloc 26)]) (.seq (.reg []
  [o1 9 (.move (.tmp 0)),
  o1 10 (.call ⟨.value (.func 30), #[.tmp 9], #[62]⟩)]) (.seq (.seq (.reg []
  [o1 11 (.move (.tmp 0)),
  o1 12 (.move (.tmp 2)),
  o1 13 (.call ⟨.value (.func 40), #[.tmp 11, .tmp 12], #[62, 9]⟩)]) (.cond (.tmp 13) (.seq (.reg []
  [o1 14 (.load 26 (.tmp 5)),
  o3 (.store 26 (.tmp 8) (.tmp 14))]) (.ret)) (.skip))) (.seq (.block 0 (.loop (.seq (.seq (.reg []
  [o1 15 (.move (.tmp 0)),
  o1 16 (.nilCheck (.tmp 15)),
  o1 17 (.fieldAddr 64 (.tmp 16) 1),
  o1 18 (.load 34 (.tmp 17)),
  o1 19 (.binOp .eql 34 (.tmp 18) (.const (.int .i64 0)) 34)]) (.cond (.tmp 19) (.skip) (.exit 0))) (.block 1 (.seq (.seq (.reg []
  [o1 20 (.fieldAddr 26 (.tmp 5) 3),
  o1 21 (.load 24 (.tmp 20)),
  o1 22 (.call ⟨.builtin .len, #[.tmp 21], #[24]⟩),
  o1 23 (.binOp .geq 3 (.tmp 22) (.const (.int .i64 64)) 3)]) (.cond (.tmp 23) (.reg []
  [o1 24 (.move (.tmp 0)),
  o1 25 (.call ⟨.value (.func 31), #[.tmp 24, .const (.int .i64 11)], #[62, 34]⟩)]) (.skip))) (.seq (.seq (.reg []
  [o1 26 (.fieldAddr 26 (.tmp 5) 0),
  o1 27 (.load 22 (.tmp 26)),
  o1 28 (.binOp .eql 22 (.tmp 27) (.const (.int .i64 6)) 22)]) (.cond (.tmp 28) (.regl [o1 29 (.fieldAddr 26 (.tmp 5) 2),
  o1 30 (.load 23 (.tmp 29)),
  o1 31 (.move (.tmp 0)),
  o1 32 (.fieldAddr 26 (.tmp 5) 2),
  o1 33 (.load 23 (.tmp 32))]
  []
  [o1 34 (.call ⟨.value (.func 55), #[.tmp 31, .tmp 33], #[62, 23]⟩),
  o1 35 (.buildSlice 23 1 #[(0, .tmp 34)])]
  [o1 36 (.call ⟨.builtin .append, #[.tmp 30, .tmp 35], #[23, 23]⟩),
  o1 37 (.fieldAddr 26 (.tmp 5) 2),
  o3 (.store 23 (.tmp 37) (.tmp 36))]) (.skip))) (.seq (.regl [o1 38 (.fieldAddr 26 (.tmp 5) 3),
  o1 39 (.load 24 (.tmp 38)),
  o1 40 (.move (.tmp 0)),
  o1 41 (.move (.tmp 3)),
  o1 42 (.binOp .add 3 (.tmp 41) (.const (.int .i64 1)) 3)]
  []
  [o1 43 (.call ⟨.value (.func 29), #[.tmp 40, .tmp 42], #[62, 3]⟩),
  o1 44 (.buildSlice 24 1 #[(0, .tmp 43)])]
  [o1 45 (.call ⟨.builtin .append, #[.tmp 39, .tmp 44], #[24, 24]⟩),
  o1 46 (.fieldAddr 26 (.tmp 5) 3),
  o3 (.store 24 (.tmp 46) (.tmp 45))]) (.seq (.reg []
  [o1 47 (.move (.tmp 0)),
  o1 48 (.call ⟨.value (.func 30), #[.tmp 47], #[62]⟩)]) (.seq (.seq (.reg []
  [o1 49 (.move (.tmp 0)),
  o1 50 (.move (.tmp 2)),
  o1 51 (.call ⟨.value (.func 40), #[.tmp 49, .tmp 50], #[62, 9]⟩)]) (.cond (.tmp 51) (.seq (.reg []
  [o1 52 (.load 26 (.tmp 5)),
  o3 (.store 26 (.tmp 8) (.tmp 52))]) (.ret)) (.skip))) (.seq (.reg []
  [o1 53 (.move (.tmp 0)),
  o1 54 (.call ⟨.value (.func 40), #[.tmp 53, .const (.string { data := #[44] })], #[62, 9]⟩),
  o1 55 (.unOp .not 4 (.tmp 54))]) (.cond (.tmp 55) (.reg []
  [o1 56 (.move (.tmp 0)),
  o1 57 (.call ⟨.value (.func 31), #[.tmp 56, .const (.int .i64 2)], #[62, 34]⟩)]) (.skip)))))))))))) (.seq (.reg []
  [o1 58 (.build 26 #[]),
  o3 (.store 26 (.tmp 8) (.tmp 58))]) (.ret)))))
def ms42_0 : List Nat := [1, 4, 6, 7, 9, 10, 11, 12, 13, 14, 15, 16, 17, 18, 19, 20, 21, 22, 23, 24, 25, 26, 27, 28, 29, 30, 31, 32, 33, 34, 35, 36, 37, 38, 39, 40, 41, 42, 43, 44, 45, 46, 47, 48, 49, 50, 51, 52, 53, 54, 55, 56, 57]
theorem ls42 : Tryd.f42.body.map (strip Tryd.prog impCodP) = some lc42 := by kernel_rfl
theorem lcall42 : LC 42 59 lc42 [.cell 8 26] := LC.of Tryd.func42 (by kernel_rfl) ls42 (by kernel_rfl) (by kernel_rfl)
/-- (*escutcheon/page.reader).value -/
def lc29 : LCode := .seq (.reg []
  [o1 4 (.alloc 26)]) (.seq (.reg []
  [o1 9 (.move (.tmp 0)),
  o1 10 (.call ⟨.value (.func 30), #[.tmp 9], #[62]⟩)]) (.seq (.seq (.reg []
  [o1 11 (.move (.tmp 1)),
  o1 12 (.binOp .gtr 3 (.tmp 11) (.const (.int .i64 8)) 3),
  o1 13 (.move (.tmp 12)),
  o2 14 (.move (.tmp 0)) 13 true,
  o2 15 (.nilCheck (.tmp 14)) 13 true,
  o2 16 (.fieldAddr 64 (.tmp 15) 0) 13 true,
  o2 17 (.load 9 (.tmp 16)) 13 true,
  o2 18 (.binOp .neq 9 (.tmp 17) (.const (.string { data := #[] })) 9) 13 true,
  o1 19 (.pick (.tmp 13) (.tmp 18) (.const (.bool false)))]) (.cond (.tmp 19) (.reg []
  [o1 20 (.move (.tmp 0)),
  o1 21 (.call ⟨.value (.func 31), #[.tmp 20, .const (.int .i64 9)], #[62, 34]⟩)]) (.skip))) (.seq (.seq (.reg []
  [o1 22 (.load 68 (.global 0)),
  o1 23 (.move (.const (.int .i64 0)))]) (.block 0 (.loop (.seq (.reg []
  [o1 24 (.binOp .lss 3 (.tmp 23) (.const (.int .i64 3)) 3)]) (.seq (.cond (.tmp 24) (.skip) (.exit 0)) (.seq (.block 1 (.seq (.reg []
  [o1 25 (.move (.tmp 23)),
  o1 26 (.index 68 (.tmp 22) (.tmp 23)),
  o1 5 (.assign (.tmp 25)),
  o1 6 (.assign (.tmp 26))]) (.seq (.reg []
  [o1 27 (.move (.tmp 0)),
  o1 28 (.move (.tmp 6)),
  o1 29 (.call ⟨.value (.func 40), #[.tmp 27, .tmp 28], #[62, 9]⟩)]) (.cond (.tmp 29) (.seq (.reg []
  [o1 30 (.move (.tmp 5)),
  o1 31 (.build 26 #[(0, .tmp 30)]),
  o3 (.store 26 (.tmp 4) (.tmp 31))]) (.ret)) (.skip))))) (.reg []
  [o1 32 (.binOp .add 3 (.tmp 23) (.const (.int .i64 1)) 3),
  o1 23 (.move (.tmp 32))]))))))) (.seq (.block 2 (.seq (.reg []
  [o1 34 (.move (.tmp 0)),
  o1 35 (.call ⟨.value (.func 40), #[.tmp 34, .const (.string { data := #[34] })], #[62, 9]⟩),
  o1 33 (.assign (.tmp 35))]) (.cond (.tmp 33) (.seq (.reg []
  [o1 36 (.move (.tmp 0)),
  o1 37 (.call ⟨.value (.func 41), #[.tmp 36], #[62]⟩),
  o1 38 (.build 26 #[(0, .const (.int .i64 4)), (1, .tmp 37)]),
  o3 (.store 26 (.tmp 4) (.tmp 38))]) (.ret)) (.seq (.reg []
  [o1 40 (.move (.tmp 0)),
  o1 41 (.call ⟨.value (.func 40), #[.tmp 40, .const (.string { data := #[91] })], #[62, 9]⟩),
  o1 39 (.assign (.tmp 41))]) (.cond (.tmp 39) (.seq (.reg []
  [o1 42 (.move (.tmp 0)),
  o1 43 (.build 26 #[(0, .const (.int .i64 5))]),
  o1 44 (.move (.tmp 1)),
  o1 45 (.call ⟨.value (.func 42), #[.tmp 42, .tmp 43, .const (.string { data := #[93] }), .tmp 44], #[62, 26, 9, 3]⟩),
  o3 (.store 26 (.tmp 4) (.tmp 45))]) (.ret)) (.seq (.reg []
  [o1 47 (.move (.tmp 0)),
  o1 48 (.call ⟨.value (.func 40), #[.tmp 47, .const (.string { data := #[123] })], #[62, 9]⟩),
  o1 46 (.assign (.tmp 48))]) (.cond (.tmp 46) (.seq (.reg []
  [o1 49 (.move (.tmp 0)),
  o1 50 (.build 26 #[(0, .const (.int .i64 6))]),
  o1 51 (.move (.tmp 1)),
  o1 52 (.call ⟨.value (.func 42), #[.tmp 49, .tmp 50, .const (.string { data := #[125] }), .tmp 51], #[62, 26, 9, 3]⟩),
  o3 (.store 26 (.tmp 4) (.tmp 52))]) (.ret)) (.skip)))))))) (.seq (.reg []
  [o1 53 (.move (.tmp 0)),
  o1 54 (.nilCheck (.tmp 53)),
  o1 55 (.fieldAddr 64 (.tmp 54) 0),
  o1 56 (.load 9 (.tmp 55)),
  o1 57 (.call ⟨.value (.func 43), #[.tmp 56], #[9]⟩),
  o1 7 (.assign (.tmp 57))]) (.seq (.seq (.reg []
  [o1 58 (.move (.tmp 7)),
  o1 59 (.binOp .eql 3 (.tmp 58) (.const (.int .i64 0)) 3),
  o1 60 (.move (.tmp 59)),
  o2 61 (.move (.tmp 7)) 60 false,
  o2 62 (.binOp .gtr 3 (.tmp 61) (.const (.int .i64 40)) 3) 60 false,
  o1 63 (.pick (.tmp 60) (.const (.bool true)) (.tmp 62))]) (.cond (.tmp 63) (.seq (.reg []
  [o1 64 (.move (.tmp 0)),
  o1 65 (.call ⟨.value (.func 31), #[.tmp 64, .const (.int .i64 2)], #[62, 34]⟩)]) (.seq (.reg []
  [o1 66 (.build 26 #[]),
  o3 (.store 26 (.tmp 4) (.tmp 66))]) (.ret))) (.skip))) (.seq (.reg []
  [o1 67 (.move (.tmp 0)),
  o1 68 (.nilCheck (.tmp 67)),
  o1 69 (.fieldAddr 64 (.tmp 68) 0),
  o1 70 (.load 9 (.tmp 69)),
  o1 71 (.move (.tmp 7)),
  o1 72 (.slice 9 (.tmp 70) none (some (.tmp 71)) none),
  o1 73 (.build 26 #[(0, .const (.int .i64 3)), (1, .tmp 72)]),
  o1 8 (.alloc 26),
  o3 (.store 26 (.tmp 8) (.tmp 73))]) (.seq (.reg []
  [o1 74 (.move (.tmp 0)),
  o1 75 (.move (.tmp 0)),
  o1 76 (.nilCheck (.tmp 75)),
  o1 77 (.fieldAddr 64 (.tmp 76) 0),
  o1 78 (.load 9 (.tmp 77)),
  o1 79 (.move (.tmp 7)),
  o1 80 (.slice 9 (.tmp 78) (some (.tmp 79)) none none),
  o1 81 (.nilCheck (.tmp 74)),
  o1 82 (.fieldAddr 64 (.tmp 81) 0),
  o3 (.store 9 (.tmp 82) (.tmp 80))]) (.seq (.reg []
  [o1 83 (.load 26 (.tmp 8)),
  o3 (.store 26 (.tmp 4) (.tmp 83))]) (.ret))))))))))
def ms29_0 : List Nat := [2, 3, 5, 6, 9, 10, 11, 12, 13, 14, 15, 16, 17, 18, 19, 20, 21, 23, 24, 25, 26, 27, 28, 29, 30, 31, 32, 65]
theorem ls29 : Tryd.f29.body.map (strip Tryd.prog impCodP) = some lc29 := by kernel_rfl
theorem lcall29 : LC 29 84 lc29 [.cell 4 26] := LC.of Tryd.func29 (by kernel_rfl) ls29 (by kernel_rfl) (by kernel_rfl)
/-- escutcheon/page.Parse -/
def lc15 : LCode := .seq (.reg []
  [o1 2 (.alloc 26),
  o1 3 (.assign (.const (.int .i64 0)))]) (.seq (.reg []
  [o1 6 (.move (.tmp 0)),
  o1 7 (.build 64 #[(0, .tmp 6)]),
  o1 8 (.box 64 (.tmp 7)),
  o1 4 (.assign (.tmp 8))]) (.seq (.reg []
  [o1 9 (.move (.tmp 4)),
  o1 10 (.call ⟨.value (.func 29), #[.tmp 9, .const (.int .i64 1)], #[62, 3]⟩),
  o1 5 (.alloc 26),
  o3 (.store 26 (.tmp 5) (.tmp 10))]) (.seq (.reg []
  [o1 11 (.move (.tmp 4)),
  o1 12 (.call ⟨.value (.func 30), #[.tmp 11], #[62]⟩)]) (.seq (.seq (.reg []
  [o1 13 (.move (.tmp 4)),
  o1 14 (.nilCheck (.tmp 13)),
  o1 15 (.fieldAddr 64 (.tmp 14) 0),
  o1 16 (.load 9 (.tmp 15)),
  o1 17 (.binOp .neq 9 (.tmp 16) (.const (.string { data := #[] })) 9)]) (.cond (.tmp 17) (.reg []
  [o1 18 (.move (.tmp 4)),
  o1 19 (.call ⟨.value (.func 31), #[.tmp 18, .const (.int .i64 2)], #[62, 34]⟩)]) (.skip))) (.seq (.seq (.reg []
  [o1 20 (.move (.tmp 4)),
  o1 21 (.nilCheck (.tmp 20)),
  o1 22 (.fieldAddr 64 (.tmp 21) 1),
  o1 23 (.load 34 (.tmp 22)),
  o1 24 (.binOp .neq 34 (.tmp 23) (.const (.int .i64 0)) 34)]) (.cond (.tmp 24) (.seq (.regl [o1 26 (.move (.tmp 4)),
  o1 27 (.nilCheck (.tmp 26)),
  o1 28 (.fieldAddr 64 (.tmp 27) 1),
  o1 29 (.load 34 (.tmp 28))]
  []
  [o1 25 (.build 26 #[]),
  o3 (.store 26 (.tmp 2) (.tmp 25))]
  [o1 3 (.assign (.tmp 29))]) (.ret)) (.skip))) (.seq (.reg []
  [o1 30 (.load 26 (.tmp 5)),
  o3 (.store 26 (.tmp 2) (.tmp 30)),
  o1 3 (.assign (.const (.int .i64 0)))]) (.ret)))))))
theorem ls15 : Tryd.f15.body.map (strip Tryd.prog impCodP) = some lc15 := by kernel_rfl
theorem lcall15 : LC 15 31 lc15 [.cell 2 26, .tmp 3] := LC.of Tryd.func15 (by kernel_rfl) ls15 (by kernel_rfl) (by kernel_rfl)
end Go.Abs.S
namespace Go.Abs
open Go.Proofs Go.RowKit
set_option linter.unusedVariables false
variable {P : Program} {G : Glob} {σ : Sig} {H : AHeap} {w w' : World}
/-- What lay there stays. -/
theorem Rel.below (rel : Rel G σ H w) (b : Below w.heap.size w w') : Rel G σ H w' ∧ Ext σ H w σ H w' ∧ (∀ x u, AR σ w x u → AR σ w' x u) ∧ Quiet σ H w σ w' := by
  have hm : ∀ x u, AR σ w x u → AR σ w' x u := fun x u h => AR.mono (σ := σ) (σ' := σ) (fun _ _ _ h => h) (fun _ h => h) (fun B hB => b.block B (rel.roLt B hB)) h
  refine ⟨⟨fun k kb l g1 g2 g3 => ?_, rel.inj, rel.apart, fun B hB => Nat.lt_of_lt_of_le (rel.roLt B hB) b.size, rel.fresh, fun g => hm _ _ (rel.glob g), rel.base0⟩,
    ⟨b.os, b.tape, b.output, b.size, fun _ _ _ h => h, fun _ h => h, fun B hB _ => b.block B hB, fun _ _ _ h => .inl h, fun k kb l g1 g2 _ => ⟨kb, g1, g2, rfl⟩, fun B h => .inl h, Nat.le_refl _⟩, hm, ⟨fun B hB => .same (b.block B hB), fun _ _ _ h => .inl h⟩⟩
  obtain ⟨C, fr, c1, c2, c3, c4, c5⟩ := rel.blk k kb l g1 g2 g3
  refine ⟨C, fr, by rw [b.block _ (Array.getElem?_eq_some_iff.1 c1).1]; exact c1, c2, c3, c4, fun j hj => ?_⟩
  obtain ⟨v, e1, e2⟩ := c5 j hj
  exact ⟨v, e1, hm _ _ e2⟩
/-- A contract of the library's, of plain values. -/
theorem PCall.shelf {n : FuncId} {args : List AV} {xs : List Value} {r : AV} {v : Value} (hc : Callable P n) (hl : xs.length = args.length) (his : ∀ j, j < args.length → ∀ (σ : Sig) (w : World) (u : Value), AR σ w (args.getD j .any) u → u = xs.getD j undef)
    (hr : ∀ (σ : Sig) (w : World), AR σ w r v) (h : ∀ (σ : Sig) (H : AHeap) (w : World), Rel G σ H w → Calls P n xs.toArray w fun e w' => e = .returned v ∧ Below w.heap.size w w') : PCall P G n args r := fun H => by
  refine ⟨hc, fun σ w us hu ha rel => ?_⟩
  have e : us = xs.toArray := by
    refine Array.ext (by simpa [hl] using hu) fun j h1 h2 => ?_
    have hj : j < args.length := by omega
    have := his j hj σ w _ (ha j hj)
    rw [Array.getD_eq_getD_getElem?, Array.getElem?_eq_getElem h1, Option.getD_some] at this
    rw [this, List.getD_eq_getElem?_getD, List.getElem?_eq_getElem (by omega), Option.getD_some, List.getElem_toArray]
  subst e
  refine (h σ H w rel).mono ?_
  rintro e w' ⟨rfl, hb⟩
  obtain ⟨r1, x1, _, q1⟩ := rel.below hb
  exact ⟨v, rfl, σ, hr σ w', r1, x1, fun _ => q1⟩
theorem is_v (x : Value) (σ : Sig) (w : World) (u : Value) (h : AR σ w (.v x) u) : u = x := by
  cases h
  rfl
theorem is_f (f : Fn) (σ : Sig) (w : World) (u : Value) (h : AR σ w (.fn f []) u) : u = .func f #[] #[] := by
  cases h with
  | fn us hl ha =>
    have : us = #[] := Array.eq_empty_of_size_eq_zero hl
    rw [this]
theorem tup2 (a b : Value) (σ : Sig) (w : World) : AR σ w (.tup [.v a, .v b]) (.tuple #[a, b]) := .tup _ rfl fun j hj => by
  match j, hj with
  | 0, _ => exact .v _
  | 1, _ => exact .v _
/-- A variable's cells. -/
theorem glob_cells {g : Nat} {k : IntKind} {lay : List Int} (hg : G g = .vptr (ints k lay) 0) (rel : Rel G σ H w) (j : Nat) (hj : j < lay.length) : w.cell? ⟨g, j, none⟩ = some (.int k (lay.getD j 0)) := by
  have h := rel.glob g
  rw [hg] at h
  generalize hu : Value.pointer (some ⟨g, 0, none⟩) = u at h
  cases h with
  | vptr B o v hr hm ha =>
    simp only [Nat.add_zero, Value.pointer.injEq, Option.some.injEq, Addr.mk.injEq] at hu
    obtain ⟨rfl, rfl, _⟩ := hu
    have h1 := hm j (by rw [ints_length]; exact hj)
    have h2 := ha j (by rw [ints_length]; exact hj)
    rw [ints_get hj] at h2
    rw [Nat.zero_add] at h1
    rw [h1]
    generalize v j = y at *
    cases h2
    rfl
/-- A call that reads alone, in any memory whose variables are so. -/
theorem PCall.at (hG : GN G) {n : FuncId} {args : List AV} {v : Value} (h : PCall P G n args (.v v)) (rel : Rel G σ H w) (us : Array Value) (hu : us.size = args.length) (ha : ∀ j, j < args.length → AR ⟨fun _ _ => none, σ.ro⟩ w (args.getD j .any) (us.getD j undef)) : Calls P n us w fun e w' => e = .returned v ∧ Below w.heap.size w w' := by
  refine ((h []).2 ⟨fun _ _ => none, σ.ro⟩ w us hu ha (rel.none hG)).mono ?_
  rintro e w' ⟨u, rfl, σ1, a1, a2, a3, _⟩
  cases a1
  exact ⟨rfl, a3.os, a3.tape, a3.output, a3.size, fun B hB => a3.frame B hB noImg⟩
end Go.Abs
namespace Go.Abs.S
attribute [local go_sem] lguard aopO aop aenv toAV tput aLoad aStore vcells aBin aNilI aUn aAlloc aBox aBuild aBSlice afill aConv isIntT aappZ aCap aArr aMM aMake aSlice bnd3 bnd aFldAddr aFld aIdxAddr aIdx aExt aLen aCopy aEq0 bAV aUb aapp aappQ agh acont List.getD_cons_zero List.getD_cons_succ List.set_cons_zero List.set_cons_succ List.getElem?_cons_zero List.getElem?_cons_succ List.length_cons List.length_nil List.map_cons List.map_nil ints_length if_true if_false Bool.false_eq_true true_and and_true eq_self ne_eq not_false_eq_true not_true_eq_false beq_self_eq_true Nat.zero_add Nat.add_zero Nat.mul_one Nat.zero_mul Int.toNat_natCast List.toList_toArray List.all_cons List.all_nil AV.one Value.oneCell' Bool.and_true Bool.true_and forall_const true_implies false_implies implies_true Option.map_some Option.map_none Option.isSome_some Option.isSome_none imp_self rdP_flat rdP_row splice_one ints_set ints_get List.append_nil List.cons_append List.nil_append List.getElem?_toArray List.drop_zero ints_drop ints_take List.take_of_length_le splice_all ints_one Option.some.injEq Option.getD_some List.length_replicate zArr List.map_replicate rep_ints splice_intsR List.length_set List.length_append List.flatten_replicate_singleton rep_slice rep_string rep_bool rep_iface List.replicate_zero if_pos if_neg List.mapM_cons List.mapM_nil Option.pure_def Option.bind_eq_bind Option.bind_some Bool.true_eq_false Bool.not_false Bool.not_true get_concat set_concat
open Go.Proofs Go.RowKit
set_option linter.unusedVariables false
set_option linter.unusedSimpArgs false
set_option maxRecDepth 100000
set_option maxHeartbeats 4000000
theorem is2 {a b : AV} {x y : Value} (ha : ∀ (σ : Sig) (w : World) (u : Value), AR σ w a u → u = x) (hb : ∀ (σ : Sig) (w : World) (u : Value), AR σ w b u → u = y) : ∀ j, j < [a, b].length → ∀ (σ : Sig) (w : World) (u : Value), AR σ w ([a, b].getD j .any) u → u = [x, y].getD j undef
  | 0, _ => ha
  | 1, _ => hb
theorem is1 {a : AV} {x : Value} (ha : ∀ (σ : Sig) (w : World) (u : Value), AR σ w a u → u = x) : ∀ j, j < [a].length → ∀ (σ : Sig) (w : World) (u : Value), AR σ w ([a].getD j .any) u → u = [x].getD j undef
  | 0, _ => ha
theorem cut_p (l p : List UInt8) : PCall Tryd.prog glob 50 [.v (.string (bs l)), .v (.string (bs p))] (.tup [.v (.string (bs (if p.isPrefixOf l = true then l.drop p.length else l))), .v (.bool (p.isPrefixOf l))]) :=
  PCall.shelf ⟨_, Tryd.func50, by kernel_rfl, by kernel_rfl⟩ rfl (is2 (is_v _) (is_v _)) (tup2 _ _) fun σ H w _ => (Tryd.strings_CutPrefix (bs l) (bs p) w).mono fun e w' ⟨h1, h2⟩ => ⟨h1, h2 ▸ Below.refl _ _⟩
def blanks4 : List UInt8 := [32, 9, 10, 13]
theorem triml_p (l : List UInt8) : PCall Tryd.prog glob 44 [.v (.string (bs l)), .v (.string ⟨#[32, 9, 10, 13]⟩)] (.v (.string (bs (l.dropWhile (blanks4.contains ·))))) :=
  PCall.shelf ⟨_, Tryd.func44, by kernel_rfl, by kernel_rfl⟩ rfl (is2 (is_v _) (is_v _)) (fun _ _ => .v _) fun σ H w _ => Any.strings_TrimLeft_laid Tryd.lays161 (by kernel_rfl) (bs l) ⟨#[32, 9, 10, 13]⟩ w (by decide) (ascii_of_all (by decide))
def hexs : List UInt8 := [48, 49, 50, 51, 52, 53, 54, 55, 56, 57, 97, 98, 99, 100, 101, 102, 65, 66, 67, 68, 69, 70]
theorem trim_p (l : List UInt8) (hl : l.length ≤ 9223372036854775807) : PCall Tryd.prog glob 72 [.v (.string (bs l)), .v (.string ⟨#[48, 49, 50, 51, 52, 53, 54, 55, 56, 57, 97, 98, 99, 100, 101, 102, 65, 66, 67, 68, 69, 70]⟩)] (.v (.string (bs (Lib.trimS l hexs)))) :=
  PCall.shelf ⟨_, Tryd.func72, by kernel_rfl, by kernel_rfl⟩ rfl (is2 (is_v _) (is_v _)) (fun _ _ => .v _) fun σ H w _ => Any.strings_Trim_laid Tryd.lays160 (by kernel_rfl) (bs l) ⟨#[48, 49, 50, 51, 52, 53, 54, 55, 56, 57, 97, 98, 99, 100, 101, 102, 65, 66, 67, 68, 69, 70]⟩ w (by rw [bs_size]; exact hl) (by decide) (ascii_of_all (by decide))
theorem ixb_p (s : ByteArray) (c : UInt8) : PCall Tryd.prog glob 71 [.v (.string s), .v (.int .u8 (c.toNat : Int))] (.v (.int .i64 (Lib.indexByte s.data.toList c))) :=
  PCall.shelf ⟨_, Tryd.func71, by kernel_rfl, by kernel_rfl⟩ rfl (is2 (is_v _) (is_v _)) (fun _ _ => .v _) fun σ H w _ => (Tryd.strings_IndexByte s (c.toNat : Int) w).mono fun e w' ⟨h1, h2⟩ => ⟨by rw [h1]; simp, h2 ▸ Below.refl _ _⟩
/-- A sign that ends what is taken at once. -/
def pq (c : Nat) : Bool := ((c : Int) == 34 || (c : Int) == 92 || decide ((c : Int) < 32) || (c : Int) == 65533)
theorem pq_p (c : Nat) : PCall Tryd.prog glob 52 [.v (.int .i32 (c : Int))] (.v (.bool (pq c))) := by
  refine PCall.of ctx.nr nrs (NR.v _) ?_
  refine lcall52 (by simp) 0 (Nat.le_refl _) ?_
  unfold lc52
  refine I1 tt ⟨?_⟩
  unfold pq
  obtain ⟨a, ha⟩ : ∃ a, ((c : Int) == 34) = a := ⟨_, rfl⟩
  obtain ⟨b, hb⟩ : ∃ a, ((c : Int) == 92) = a := ⟨_, rfl⟩
  obtain ⟨d, hd⟩ : ∃ a, decide ((c : Int) < 32) = a := ⟨_, rfl⟩
  obtain ⟨e, he⟩ : ∃ a, ((c : Int) == 65533) = a := ⟨_, rfl⟩
  rw [ha, hb, hd, he]
  cases a <;> cases b <;> cases d <;> cases e
  all_goals
    refine G1 F4 (an ha (an hb (an hd (an he tt)))) tt tt tt ⟨?_⟩
    refine R1 tt ⟨?_⟩
    exact end0 (NR.v _) rfl
theorem idxf_p (l : List UInt8) : PCall Tryd.prog glob 51 [.v (.string (bs l)), .fn (.func 52) []] (.v (.int .i64 (Lib.idxFunc pq true (bs l)))) :=
  PCall.shelf ⟨_, Tryd.func51, by kernel_rfl, by kernel_rfl⟩ rfl (is2 (is_v _) (is_f _)) (fun _ _ => .v _) fun σ H w rel =>
    Tryd.strings_IndexFunc_grows 52 #[] (enters_of Tryd.func52 (by kernel_rfl) rfl) pq (bs l) w fun W x _ hb => by
      have h := PCall.at ctx.nr (pq_p x) (rel.below hb).1 #[encR x] rfl fun j hj => by
        obtain rfl : j = 0 := by have : j < 1 := hj; omega
        exact .v _
      exact h
theorem tabs_of {σ : Sig} {H : AHeap} {w : World} (rel : Rel glob σ H w) : Lib.Utf8Tabs 2 3 w := by
  have h1 : ∀ c, c < 256 → lay_unicode_utf8_first.getD c 0 = Lib.firstT c := by decide +kernel
  have h2 : ∀ i, i < 16 → lay_unicode_utf8_acceptRanges.getD (2 * i) 0 = Lib.accLo i ∧ lay_unicode_utf8_acceptRanges.getD (2 * i + 1) 0 = Lib.accHi i := by decide +kernel
  have l1 : lay_unicode_utf8_first.length = 256 := by decide +kernel
  have l2 : lay_unicode_utf8_acceptRanges.length = 32 := by decide +kernel
  refine ⟨fun c hc => ?_, fun i hi => ⟨?_, ?_⟩⟩
  · rw [← h1 c hc]
    exact glob_cells (G := glob) (g := 2) (k := .u8) (lay := lay_unicode_utf8_first) rfl rel c (by omega)
  · rw [← (h2 i hi).1]
    exact glob_cells (G := glob) (g := 3) (k := .u8) (lay := lay_unicode_utf8_acceptRanges) rfl rel (2 * i) (by omega)
  · rw [← (h2 i hi).2]
    exact glob_cells (G := glob) (g := 3) (k := .u8) (lay := lay_unicode_utf8_acceptRanges) rfl rel (2 * i + 1) (by omega)
theorem dec_p (l : List UInt8) : PCall Tryd.prog glob 53 [.v (.string (bs l))] (.tup [.v (.int .i32 (Lib.decodeGo (bs l)).1), .v (.int .i64 (Lib.decodeGo (bs l)).2)]) :=
  PCall.shelf ⟨_, Tryd.func53, by kernel_rfl, by kernel_rfl⟩ rfl (is1 (is_v _)) (tup2 _ _) fun σ H w rel => Tryd.utf8_DecodeRuneInString (bs l) w (tabs_of rel)
end Go.Abs.S
namespace Go.Abs.S
open Go.Proofs
set_option maxRecDepth 100000
def impCodA : FuncId → Bool := fun f => f == 26 || f == 27 || f == 29 || f == 30 || f == 31 || f == 37 || f == 39 || f == 40 || f == 41 || f == 42 || f == 48 || f == 54 || f == 55 || f == 75
/-- strconv.Itoa -/
def lc100 : LCode := .seq (.reg []
  [o1 2 (.assign (.const (.string { data := #[] })))]) (.seq (.reg []
  [o1 3 (.move (.tmp 0)),
  o1 4 (.call ⟨.value (.func 101), #[.tmp 3], #[3]⟩),
  o1 2 (.assign (.tmp 4))]) (.ret))
/-- internal/strconv.Itoa -/
def lc101 : LCode := .seq (.reg []
  [o1 2 (.assign (.const (.string { data := #[] })))]) (.seq (.reg []
  [o1 3 (.move (.tmp 0)),
  o1 4 (.call ⟨.value (.func 102), #[.tmp 3, .const (.int .i64 10)], #[2, 3]⟩),
  o1 2 (.assign (.tmp 4))]) (.ret))
/-- strings.HasPrefix -/
def lc56 : LCode := .seq (.reg []
  [o1 4 (.assign (.const (.bool false)))]) (.seq (.reg []
  [o1 5 (.move (.tmp 0)),
  o1 6 (.move (.tmp 1)),
  o1 7 (.call ⟨.value (.func 74), #[.tmp 5, .tmp 6], #[9, 9]⟩),
  o1 4 (.assign (.tmp 7))]) (.ret))
theorem ls56 : Tryd.f56.body.map (strip Tryd.prog impCodA) = some lc56 := by kernel_rfl
theorem lcall56 : LC 56 8 lc56 [.tmp 4] := LC.of Tryd.func56 (by kernel_rfl) ls56 (by kernel_rfl) (by kernel_rfl)
/-- internal/strconv.FormatInt -/
def lc102 : LCode := .seq (.reg []
  [o1 4 (.assign (.const (.string { data := #[] })))]) (.seq (.seq (.reg []
  [o1 10 (.move (.tmp 1)),
  o1 11 (.binOp .eql 3 (.tmp 10) (.const (.int .i64 10)) 3)]) (.cond (.tmp 11) (.seq (.seq (.reg []
  [o1 12 (.move (.tmp 0)),
  o1 13 (.binOp .leq 2 (.const (.int .i64 0)) (.tmp 12) 2),
  o1 14 (.move (.tmp 13)),
  o2 15 (.move (.tmp 0)) 14 true,
  o2 16 (.binOp .lss 2 (.tmp 15) (.const (.int .i64 100)) 2) 14 true,
  o1 17 (.pick (.tmp 14) (.tmp 16) (.const (.bool false)))]) (.cond (.tmp 17) (.seq (.reg []
  [o1 18 (.move (.tmp 0)),
  o1 19 (.call ⟨.value (.func 103), #[.tmp 18], #[3]⟩),
  o1 4 (.assign (.tmp 19))]) (.ret)) (.skip))) (.seq (.reg []
  [o1 5 (.alloc 134)]) (.seq (.reg []
  [o1 20 (.move (.tmp 0)),
  o1 21 (.convert 2 105 (.tmp 20)),
  o1 6 (.assign (.tmp 21))]) (.seq (.seq (.reg []
  [o1 22 (.move (.tmp 0)),
  o1 23 (.binOp .lss 2 (.tmp 22) (.const (.int .i64 0)) 2)]) (.cond (.tmp 23) (.reg []
  [o1 24 (.move (.tmp 6)),
  o1 25 (.unOp .neg 105 (.tmp 24)),
  o1 6 (.assign (.tmp 25))]) (.skip))) (.seq (.reg []
  [o1 26 (.move (.tmp 6)),
  o1 27 (.call ⟨.value (.func 104), #[.tmp 26], #[105]⟩),
  o1 7 (.assign (.tmp 27))]) (.seq (.reg []
  [o1 28 (.move (.tmp 7)),
  o1 29 (.binOp .add 3 (.const (.int .i64 1)) (.tmp 28) 3),
  o1 30 (.slice 134 (.tmp 5) (some (.const (.int .i64 1))) (some (.tmp 29)) none),
  o1 31 (.move (.tmp 6)),
  o1 32 (.call ⟨.value (.func 105), #[.tmp 30, .tmp 31], #[41, 105]⟩)]) (.seq (.seq (.reg []
  [o1 33 (.move (.tmp 0)),
  o1 34 (.binOp .lss 2 (.tmp 33) (.const (.int .i64 0)) 2)]) (.cond (.tmp 34) (.seq (.reg []
  [o1 35 (.indexAddr 134 (.tmp 5) (.const (.int .i64 0))),
  o3 (.store 5 (.tmp 35) (.const (.int .u8 45)))]) (.seq (.reg []
  [o1 36 (.move (.tmp 7)),
  o1 37 (.binOp .add 3 (.const (.int .i64 1)) (.tmp 36) 3),
  o1 38 (.slice 134 (.tmp 5) none (some (.tmp 37)) none),
  o1 39 (.convert 41 9 (.tmp 38)),
  o1 4 (.assign (.tmp 39))]) (.ret))) (.skip))) (.seq (.reg []
  [o1 40 (.move (.tmp 7)),
  o1 41 (.binOp .add 3 (.const (.int .i64 1)) (.tmp 40) 3),
  o1 42 (.slice 134 (.tmp 5) (some (.const (.int .i64 1))) (some (.tmp 41)) none),
  o1 43 (.convert 41 9 (.tmp 42)),
  o1 4 (.assign (.tmp 43))]) (.ret))))))))) (.skip))) (.seq (.reg []
  [o1 45 (.move (.tmp 0)),
  o1 46 (.convert 2 105 (.tmp 45)),
  o1 47 (.move (.tmp 1)),
  o1 48 (.move (.tmp 0)),
  o1 49 (.binOp .lss 2 (.tmp 48) (.const (.int .i64 0)) 2),
  o1 50 (.call ⟨.value (.func 106), #[.const (.slice none 0 0), .tmp 46, .tmp 47, .tmp 49, .const (.bool false)], #[41, 105, 3, 4, 4]⟩),
  o1 44 (.move (.tmp 50)),
  o1 51 (.extract (.tmp 44) 0),
  o1 52 (.extract (.tmp 44) 1),
  o1 8 (.assign (.tmp 51)),
  o1 9 (.assign (.tmp 52))]) (.seq (.reg []
  [o1 53 (.move (.tmp 9)),
  o1 4 (.assign (.tmp 53))]) (.ret))))
/-- internal/stringslite.HasPrefix -/
def lc74 : LCode := .seq (.reg []
  [o1 4 (.assign (.const (.bool false)))]) (.seq (.reg []
  [o1 5 (.move (.tmp 0)),
  o1 6 (.call ⟨.builtin .len, #[.tmp 5], #[9]⟩),
  o1 7 (.move (.tmp 1)),
  o1 8 (.call ⟨.builtin .len, #[.tmp 7], #[9]⟩),
  o1 9 (.binOp .geq 3 (.tmp 6) (.tmp 8) 3),
  o1 10 (.move (.tmp 9)),
  o2 11 (.move (.tmp 0)) 10 true,
  o2 12 (.move (.tmp 1)) 10 true,
  o2 13 (.call ⟨.builtin .len, #[.tmp 12], #[9]⟩) 10 true,
  o2 14 (.slice 9 (.tmp 11) none (some (.tmp 13)) none) 10 true,
  o2 15 (.move (.tmp 1)) 10 true,
  o2 16 (.binOp .eql 9 (.tmp 14) (.tmp 15) 9) 10 true,
  o1 17 (.pick (.tmp 10) (.tmp 16) (.const (.bool false))),
  o1 4 (.assign (.tmp 17))]) (.ret))
theorem ls74 : Tryd.f74.body.map (strip Tryd.prog impCodA) = some lc74 := by kernel_rfl
theorem lcall74 : LC 74 18 lc74 [.tmp 4] := LC.of Tryd.func74 (by kernel_rfl) ls74 (by kernel_rfl) (by kernel_rfl)
/-- internal/strconv.small -/
def lc103 : LCode := .seq (.reg []
  [o1 2 (.assign (.const (.string { data := #[] })))]) (.seq (.seq (.reg []
  [o1 3 (.move (.tmp 0)),
  o1 4 (.binOp .lss 3 (.tmp 3) (.const (.int .i64 10)) 3)]) (.cond (.tmp 4) (.seq (.reg []
  [o1 5 (.move (.tmp 0)),
  o1 6 (.move (.tmp 0)),
  o1 7 (.binOp .add 3 (.tmp 6) (.const (.int .i64 1)) 3),
  o1 8 (.slice 9 (.const (.string { data := #[48, 49, 50, 51, 52, 53, 54, 55, 56, 57, 97, 98, 99, 100, 101, 102, 103, 104, 105, 106, 107, 108, 109, 110, 111, 112, 113, 114, 115, 116, 117, 118, 119, 120, 121, 122] })) (some (.tmp 5)) (some (.tmp 7)) none),
  o1 2 (.assign (.tmp 8))]) (.ret)) (.skip))) (.seq (.reg []
  [o1 9 (.move (.tmp 0)),
  o1 10 (.binOp .mul 3 (.tmp 9) (.const (.int .i64 2)) 3),
  o1 11 (.move (.tmp 0)),
  o1 12 (.binOp .mul 3 (.tmp 11) (.const (.int .i64 2)) 3),
  o1 13 (.binOp .add 3 (.tmp 12) (.const (.int .i64 2)) 3),
  o1 14 (.slice 9 (.const (.string { data := #[48, 48, 48, 49, 48, 50, 48, 51, 48, 52, 48, 53, 48, 54, 48, 55, 48, 56, 48, 57, 49, 48, 49, 49, 49, 50, 49, 51, 49, 52, 49, 53, 49, 54, 49, 55, 49, 56, 49, 57, 50, 48, 50, 49, 50, 50, 50, 51, 50, 52, 50, 53, 50, 54, 50, 55, 50, 56, 50, 57, 51, 48, 51, 49, 51, 50, 51, 51, 51, 52, 51, 53, 51, 54, 51, 55, 51, 56, 51, 57, 52, 48, 52, 49, 52, 50, 52, 51, 52, 52, 52, 53, 52, 54, 52, 55, 52, 56, 52, 57, 53, 48, 53, 49, 53, 50, 53, 51, 53, 52, 53, 53, 53, 54, 53, 55, 53, 56, 53, 57, 54, 48, 54, 49, 54, 50, 54, 51, 54, 52, 54, 53, 54, 54, 54, 55, 54, 56, 54, 57, 55, 48, 55, 49, 55, 50, 55, 51, 55, 52, 55, 53, 55, 54, 55, 55, 55, 56, 55, 57, 56, 48, 56, 49, 56, 50, 56, 51, 56, 52, 56, 53, 56, 54, 56, 55, 56, 56, 56, 57, 57, 48, 57, 49, 57, 50, 57, 51, 57, 52, 57, 53, 57, 54, 57, 55, 57, 56, 57, 57] })) (some (.tmp 10)) (some (.tmp 13)) none),
  o1 2 (.assign (.tmp 14))]) (.ret)))
/-- internal/strconv.numDigits -/
def lc104 : LCode := .seq (.reg []
  [o1 2 (.assign (.const (.int .i64 0)))]) (.seq (.reg []
  [o1 4 (.move (.tmp 0)),
  o1 5 (.call ⟨.value (.func 108), #[.tmp 4], #[105]⟩),
  o1 6 (.call ⟨.value (.func 107), #[.tmp 5], #[3]⟩),
  o1 3 (.assign (.tmp 6))]) (.seq (.reg []
  [o1 7 (.move (.tmp 3)),
  o1 8 (.move (.tmp 0)),
  o1 9 (.move (.tmp 3)),
  o1 10 (.indexAddr 140 (.global 7) (.tmp 9)),
  o1 11 (.load 105 (.tmp 10)),
  o1 12 (.binOp .geq 105 (.tmp 8) (.tmp 11) 105),
  o1 13 (.call ⟨.value (.func 109), #[.tmp 12], #[4]⟩),
  o1 14 (.binOp .add 3 (.tmp 7) (.tmp 13) 3),
  o1 2 (.assign (.tmp 14))]) (.ret)))
/-- internal/strconv.log10Pow2 -/
def lc107 : LCode := .seq (.reg []
  [o1 2 (.assign (.const (.int .i64 0)))]) (.seq (.reg []
  [o1 3 (.move (.tmp 0)),
  o1 4 (.binOp .mul 3 (.tmp 3) (.const (.int .i64 78913)) 3),
  o1 5 (.binOp .shr 3 (.tmp 4) (.const (.int .u64 18)) 115),
  o1 2 (.assign (.tmp 5))]) (.ret))
/-- math/bits.Len64 -/
def lc108 : LCode := .seq (.reg []
  [o1 2 (.assign (.const (.int .i64 0)))]) (.seq (.seq (.reg []
  [o1 3 (.move (.tmp 0)),
  o1 4 (.binOp .geq 105 (.tmp 3) (.const (.int .u64 4294967296)) 105)]) (.cond (.tmp 4) (.seq (.reg []
  [o1 5 (.move (.tmp 0)),
  o1 6 (.binOp .shr 105 (.tmp 5) (.const (.int .u64 32)) 115),
  o1 0 (.assign (.tmp 6))]) (.reg []
  [o1 2 (.assign (.const (.int .i64 32)))])) (.skip))) (.seq (.seq (.reg []
  [o1 7 (.move (.tmp 0)),
  o1 8 (.binOp .geq 105 (.tmp 7) (.const (.int .u64 65536)) 105)]) (.cond (.tmp 8) (.seq (.reg []
  [o1 9 (.move (.tmp 0)),
  o1 10 (.binOp .shr 105 (.tmp 9) (.const (.int .u64 16)) 115),
  o1 0 (.assign (.tmp 10))]) (.reg []
  [o1 11 (.move (.tmp 2)),
  o1 12 (.binOp .add 3 (.tmp 11) (.const (.int .i64 16)) 3),
  o1 2 (.assign (.tmp 12))])) (.skip))) (.seq (.seq (.reg []
  [o1 13 (.move (.tmp 0)),
  o1 14 (.binOp .geq 105 (.tmp 13) (.const (.int .u64 256)) 105)]) (.cond (.tmp 14) (.seq (.reg []
  [o1 15 (.move (.tmp 0)),
  o1 16 (.binOp .shr 105 (.tmp 15) (.const (.int .u64 8)) 115),
  o1 0 (.assign (.tmp 16))]) (.reg []
  [o1 17 (.move (.tmp 2)),
  o1 18 (.binOp .add 3 (.tmp 17) (.const (.int .i64 8)) 3),
  o1 2 (.assign (.tmp 18))])) (.skip))) (.seq (.reg []
  [o1 19 (.move (.tmp 2)),
  o1 20 (.move (.tmp 0)),
  o1 21 (.convert 105 5 (.tmp 20)),
  o1 22 (.index 9 (.const (.string { data := #[0, 1, 2, 2, 3, 3, 3, 3, 4, 4, 4, 4, 4, 4, 4, 4, 5, 5, 5, 5, 5, 5, 5, 5, 5, 5, 5, 5, 5, 5, 5, 5, 6, 6, 6, 6, 6, 6, 6, 6, 6, 6, 6, 6, 6, 6, 6, 6, 6, 6, 6, 6, 6, 6, 6, 6, 6, 6, 6, 6, 6, 6, 6, 6, 7, 7, 7, 7, 7, 7, 7, 7, 7, 7, 7, 7, 7, 7, 7, 7, 7, 7, 7, 7, 7, 7, 7, 7, 7, 7, 7, 7, 7, 7, 7, 7, 7, 7, 7, 7, 7, 7, 7, 7, 7, 7, 7, 7, 7, 7, 7, 7, 7, 7, 7, 7, 7, 7, 7, 7, 7, 7, 7, 7, 7, 7, 7, 7, 8, 8, 8, 8, 8, 8, 8, 8, 8, 8, 8, 8, 8, 8, 8, 8, 8, 8, 8, 8, 8, 8, 8, 8, 8, 8, 8, 8, 8, 8, 8, 8, 8, 8, 8, 8, 8, 8, 8, 8, 8, 8, 8, 8, 8, 8, 8, 8, 8, 8, 8, 8, 8, 8, 8, 8, 8, 8, 8, 8, 8, 8, 8, 8, 8, 8, 8, 8, 8, 8, 8, 8, 8, 8, 8, 8, 8, 8, 8, 8, 8, 8, 8, 8, 8, 8, 8, 8, 8, 8, 8, 8, 8, 8, 8, 8, 8, 8, 8, 8, 8, 8, 8, 8, 8, 8, 8, 8, 8, 8, 8, 8, 8, 8, 8, 8, 8, 8, 8, 8, 8, 8, 8, 8, 8, 8, 8, 8] })) (.tmp 21)),
  o1 23 (.convert 5 3 (.tmp 22)),
  o1 24 (.binOp .add 3 (.tmp 19) (.tmp 23) 3),
  o1 2 (.assign (.tmp 24))]) (.ret)))))
/-- internal/strconv.bool2[int] -/
def lc109 : LCode := .seq (.reg []
  [o1 2 (.assign (.const (.int .i64 0)))]) (.seq (.seq (.reg []
  [o1 3 (.move (.tmp 0))]) (.cond (.tmp 3) (.seq (.reg []
  [o1 2 (.assign (.const (.int .i64 1)))]) (.ret)) (.skip))) (.seq (.reg []
  [o1 2 (.assign (.const (.int .i64 0)))]) (.ret)))
end Go.Abs.S
namespace Go.Abs.S
attribute [local go_sem] lguard aopO aop aenv toAV tput aLoad aStore vcells aBin aNilI aUn aAlloc aBox aBuild aBSlice afill aConv isIntT aappZ aCap aArr aMM aMake aSlice bnd3 bnd aFldAddr aFld aIdxAddr aIdx aExt aLen aCopy aEq0 bAV aUb aapp aappQ agh acont List.getD_cons_zero List.getD_cons_succ List.set_cons_zero List.set_cons_succ List.getElem?_cons_zero List.getElem?_cons_succ List.length_cons List.length_nil List.map_cons List.map_nil ints_length if_true if_false Bool.false_eq_true true_and and_true eq_self ne_eq not_false_eq_true not_true_eq_false beq_self_eq_true Nat.zero_add Nat.add_zero Nat.mul_one Nat.zero_mul Int.toNat_natCast List.toList_toArray List.all_cons List.all_nil AV.one Value.oneCell' Bool.and_true Bool.true_and forall_const true_implies false_implies implies_true Option.map_some Option.map_none Option.isSome_some Option.isSome_none imp_self rdP_flat rdP_row splice_one ints_set ints_get List.append_nil List.cons_append List.nil_append List.getElem?_toArray List.drop_zero ints_drop ints_take List.take_of_length_le splice_all ints_one Option.some.injEq Option.getD_some List.length_replicate zArr List.map_replicate rep_ints splice_intsR List.length_set List.length_append List.flatten_replicate_singleton rep_slice rep_string rep_bool rep_iface List.replicate_zero if_pos if_neg List.mapM_cons List.mapM_nil Option.pure_def Option.bind_eq_bind Option.bind_some Bool.true_eq_false Bool.not_false Bool.not_true get_concat set_concat
open Go.Proofs
set_option linter.unusedVariables false
set_option linter.unusedSimpArgs false
set_option maxRecDepth 100000
set_option maxHeartbeats 4000000
theorem preB_iff (l p : List UInt8) (h : p.length ≤ l.length) : (l.take p.length = p) ↔ p.isPrefixOf l = true := by
  rw [List.isPrefixOf_iff_prefix, List.prefix_iff_eq_take]
  exact eq_comm
theorem lPre_p (l p : List UInt8) : PCall Tryd.prog glob 74 [.v (.string (bs l)), .v (.string (bs p))] (.v (.bool (p.isPrefixOf l))) := by
  refine PCall.of ctx.nr nrs (NR.v _) ?_
  refine lcall74 (by simp) 0 (Nat.le_refl _) ?_
  unfold lc74
  refine I1 tt ⟨?_⟩
  by_cases h : p.length ≤ l.length
  · have d1 : decide ((l.length : Int) ≥ p.length) = true := by rw [decide_eq_true_eq]; omega
    have q : decide (l.take p.length = p) = p.isPrefixOf l := by
      rw [Bool.eq_iff_iff, decide_eq_true_eq, preB_iff l p h]
    refine G1 F4 (an d1 (an q tt)) tt tt tt ⟨?_⟩
    refine R1 tt ⟨?_⟩
    exact end0 (NR.v _) rfl
  · have d1 : decide ((l.length : Int) ≥ p.length) = false := by rw [decide_eq_false_iff_not]; omega
    have q : p.isPrefixOf l = false := by
      rw [Bool.eq_false_iff, ne_eq, List.isPrefixOf_iff_prefix]
      exact fun h2 => h h2.length_le
    rw [q]
    refine G1 F4 (an d1 tt) tt tt tt ⟨?_⟩
    refine R1 tt ⟨?_⟩
    exact end0 (NR.v _) rfl
theorem pre_p (l p : List UInt8) : PCall Tryd.prog glob 56 [.v (.string (bs l)), .v (.string (bs p))] (.v (.bool (p.isPrefixOf l))) := by
  refine PCall.of ctx.nr nrs (NR.v _) ?_
  refine lcall56 (by simp) 0 (Nat.le_refl _) ?_
  unfold lc56
  refine I1 tt ⟨?_⟩
  refine G1 F1 tt (an (lPre_p l p).go tt) tt tt ⟨?_⟩
  refine R1 tt ⟨?_⟩
  exact end0 (NR.v _) rfl
end Go.Abs.S
namespace Go.Abs.S
open Go.Proofs
set_option maxRecDepth 100000
def impCodN : FuncId → Bool := fun f => f == 26 || f == 27 || f == 29 || f == 30 || f == 31 || f == 37 || f == 39 || f == 40 || f == 41 || f == 42 || f == 48 || f == 54 || f == 55 || f == 75
/-- escutcheon/page.digits -/
def lc57 : LCode := .seq (.reg []
  [o1 2 (.assign (.const (.int .i64 0)))]) (.seq (.reg []
  [o1 3 (.assign (.const (.int .i64 0)))]) (.seq (.block 0 (.loop (.seq (.seq (.reg []
  [o1 4 (.move (.tmp 3)),
  o1 5 (.move (.tmp 0)),
  o1 6 (.call ⟨.builtin .len, #[.tmp 5], #[9]⟩),
  o1 7 (.binOp .lss 3 (.tmp 4) (.tmp 6) 3),
  o1 8 (.move (.tmp 7)),
  o2 9 (.move (.tmp 0)) 8 true,
  o2 10 (.move (.tmp 3)) 8 true,
  o2 11 (.index 9 (.tmp 9) (.tmp 10)) 8 true,
  o2 12 (.binOp .geq 5 (.tmp 11) (.const (.int .u8 48)) 5) 8 true,
  o1 13 (.pick (.tmp 8) (.tmp 12) (.const (.bool false))),
  o1 14 (.move (.tmp 13)),
  o2 15 (.move (.tmp 0)) 14 true,
  o2 16 (.move (.tmp 3)) 14 true,
  o2 17 (.index 9 (.tmp 15) (.tmp 16)) 14 true,
  o2 18 (.binOp .leq 5 (.tmp 17) (.const (.int .u8 57)) 5) 14 true,
  o1 19 (.pick (.tmp 14) (.tmp 18) (.const (.bool false)))]) (.cond (.tmp 19) (.skip) (.exit 0))) (.block 1 (.reg []
  [o1 20 (.move (.tmp 3)),
  o1 21 (.binOp .add 3 (.tmp 20) (.const (.int .i64 1)) 3),
  o1 3 (.assign (.tmp 21))]))))) (.seq (.reg []
  [o1 22 (.move (.tmp 3)),
  o1 2 (.assign (.tmp 22))]) (.ret))))
def ms57_0 : List Nat := [1, 3, 4, 5, 6, 7, 8, 9, 10, 11, 12, 13, 14, 15, 16, 17, 18, 19, 20, 21]
theorem ls57 : Tryd.f57.body.map (strip Tryd.prog impCodN) = some lc57 := by kernel_rfl
theorem lcall57 : LC 57 23 lc57 [.tmp 2] := LC.of Tryd.func57 (by kernel_rfl) ls57 (by kernel_rfl) (by kernel_rfl)
/-- escutcheon/page.number -/
def lc43 : LCode := .seq (.reg []
  [o1 2 (.assign (.const (.int .i64 0)))]) (.seq (.reg []
  [o1 3 (.assign (.const (.int .i64 0)))]) (.seq (.seq (.reg []
  [o1 6 (.move (.tmp 0)),
  o1 7 (.call ⟨.value (.func 56), #[.tmp 6, .const (.string { data := #[45] })], #[9, 9]⟩)]) (.cond (.tmp 7) (.reg []
  [o1 3 (.assign (.const (.int .i64 1)))]) (.skip))) (.seq (.reg []
  [o1 8 (.move (.tmp 0)),
  o1 9 (.move (.tmp 3)),
  o1 10 (.slice 9 (.tmp 8) (some (.tmp 9)) none none),
  o1 11 (.call ⟨.value (.func 57), #[.tmp 10], #[9]⟩),
  o1 4 (.assign (.tmp 11))]) (.seq (.seq (.reg []
  [o1 12 (.move (.tmp 4)),
  o1 13 (.binOp .eql 3 (.tmp 12) (.const (.int .i64 0)) 3),
  o1 14 (.move (.tmp 13)),
  o2 15 (.move (.tmp 4)) 14 false,
  o2 16 (.binOp .gtr 3 (.tmp 15) (.const (.int .i64 1)) 3) 14 false,
  o2 17 (.move (.tmp 16)) 14 false,
  o2 18 (.move (.tmp 0)) 17 true,
  o2 19 (.move (.tmp 3)) 17 true,
  o2 20 (.index 9 (.tmp 18) (.tmp 19)) 17 true,
  o2 21 (.binOp .eql 5 (.tmp 20) (.const (.int .u8 48)) 5) 17 true,
  o2 22 (.pick (.tmp 17) (.tmp 21) (.const (.bool false))) 14 false,
  o1 23 (.pick (.tmp 14) (.const (.bool true)) (.tmp 22))]) (.cond (.tmp 23) (.reg []
  [o1 24 (.move (.tmp 4)),
  o1 25 (.call ⟨.builtin .min, #[.tmp 24, .const (.int .i64 1)], #[3, 3]⟩),
  o1 4 (.assign (.tmp 25))]) (.skip))) (.seq (.seq (.reg []
  [o1 26 (.move (.tmp 4)),
  o1 27 (.binOp .eql 3 (.tmp 26) (.const (.int .i64 0)) 3)]) (.cond (.tmp 27) (.seq (.reg []
  [o1 2 (.assign (.const (.int .i64 0)))]) (.ret)) (.skip))) (.seq (.reg []
  [o1 28 (.move (.tmp 3)),
  o1 29 (.move (.tmp 4)),
  o1 30 (.binOp .add 3 (.tmp 28) (.tmp 29) 3),
  o1 3 (.assign (.tmp 30))]) (.seq (.seq (.reg []
  [o1 31 (.move (.tmp 3)),
  o1 32 (.move (.tmp 0)),
  o1 33 (.call ⟨.builtin .len, #[.tmp 32], #[9]⟩),
  o1 34 (.binOp .lss 3 (.tmp 31) (.tmp 33) 3),
  o1 35 (.move (.tmp 34)),
  o2 36 (.move (.tmp 0)) 35 true,
  o2 37 (.move (.tmp 3)) 35 true,
  o2 38 (.index 9 (.tmp 36) (.tmp 37)) 35 true,
  o2 39 (.binOp .eql 5 (.tmp 38) (.const (.int .u8 46)) 5) 35 true,
  o1 40 (.pick (.tmp 35) (.tmp 39) (.const (.bool false)))]) (.cond (.tmp 40) (.seq (.seq (.reg []
  [o1 41 (.move (.tmp 0)),
  o1 42 (.move (.tmp 3)),
  o1 43 (.binOp .add 3 (.tmp 42) (.const (.int .i64 1)) 3),
  o1 44 (.slice 9 (.tmp 41) (some (.tmp 43)) none none),
  o1 45 (.call ⟨.value (.func 57), #[.tmp 44], #[9]⟩),
  o1 4 (.assign (.tmp 45))]) (.seq (.reg []
  [o1 46 (.move (.tmp 4)),
  o1 47 (.binOp .eql 3 (.tmp 46) (.const (.int .i64 0)) 3)]) (.cond (.tmp 47) (.seq (.reg []
  [o1 2 (.assign (.const (.int .i64 0)))]) (.ret)) (.skip)))) (.reg []
  [o1 48 (.move (.tmp 3)),
  o1 49 (.move (.tmp 4)),
  o1 50 (.binOp .add 3 (.const (.int .i64 1)) (.tmp 49) 3),
  o1 51 (.binOp .add 3 (.tmp 48) (.tmp 50) 3),
  o1 3 (.assign (.tmp 51))])) (.skip))) (.seq (.seq (.reg []
  [o1 52 (.move (.tmp 3)),
  o1 53 (.move (.tmp 0)),
  o1 54 (.call ⟨.builtin .len, #[.tmp 53], #[9]⟩),
  o1 55 (.binOp .lss 3 (.tmp 52) (.tmp 54) 3),
  o1 56 (.move (.tmp 55)),
  o2 57 (.move (.tmp 0)) 56 true,
  o2 58 (.move (.tmp 3)) 56 true,
  o2 59 (.index 9 (.tmp 57) (.tmp 58)) 56 true,
  o2 60 (.binOp .or 5 (.tmp 59) (.const (.int .u8 32)) 5) 56 true,
  o2 61 (.binOp .eql 5 (.tmp 60) (.const (.int .u8 101)) 5) 56 true,
  o1 62 (.pick (.tmp 56) (.tmp 61) (.const (.bool false)))]) (.cond (.tmp 62) (.seq (.reg []
  [o1 63 (.move (.tmp 3)),
  o1 64 (.binOp .add 3 (.tmp 63) (.const (.int .i64 1)) 3),
  o1 5 (.assign (.tmp 64))]) (.seq (.seq (.reg []
  [o1 65 (.move (.tmp 5)),
  o1 66 (.move (.tmp 0)),
  o1 67 (.call ⟨.builtin .len, #[.tmp 66], #[9]⟩),
  o1 68 (.binOp .lss 3 (.tmp 65) (.tmp 67) 3),
  o1 69 (.move (.tmp 68)),
  o2 70 (.move (.tmp 0)) 69 true,
  o2 71 (.move (.tmp 5)) 69 true,
  o2 72 (.index 9 (.tmp 70) (.tmp 71)) 69 true,
  o2 73 (.binOp .eql 5 (.tmp 72) (.const (.int .u8 43)) 5) 69 true,
  o2 74 (.move (.tmp 73)) 69 true,
  o2 75 (.move (.tmp 0)) 74 false,
  o2 76 (.move (.tmp 5)) 74 false,
  o2 77 (.index 9 (.tmp 75) (.tmp 76)) 74 false,
  o2 78 (.binOp .eql 5 (.tmp 77) (.const (.int .u8 45)) 5) 74 false,
  o2 79 (.pick (.tmp 74) (.const (.bool true)) (.tmp 78)) 69 true,
  o1 80 (.pick (.tmp 69) (.tmp 79) (.const (.bool false)))]) (.cond (.tmp 80) (.reg []
  [o1 81 (.move (.tmp 5)),
  o1 82 (.binOp .add 3 (.tmp 81) (.const (.int .i64 1)) 3),
  o1 5 (.assign (.tmp 82))]) (.skip))) (.seq (.seq (.reg []
  [o1 83 (.move (.tmp 0)),
  o1 84 (.move (.tmp 5)),
  o1 85 (.slice 9 (.tmp 83) (some (.tmp 84)) none none),
  o1 86 (.call ⟨.value (.func 57), #[.tmp 85], #[9]⟩),
  o1 4 (.assign (.tmp 86))]) (.seq (.reg []
  [o1 87 (.move (.tmp 4)),
  o1 88 (.binOp .eql 3 (.tmp 87) (.const (.int .i64 0)) 3)]) (.cond (.tmp 88) (.seq (.reg []
  [o1 2 (.assign (.const (.int .i64 0)))]) (.ret)) (.skip)))) (.reg []
  [o1 89 (.move (.tmp 5)),
  o1 90 (.move (.tmp 4)),
  o1 91 (.binOp .add 3 (.tmp 89) (.tmp 90) 3),
  o1 3 (.assign (.tmp 91))])))) (.skip))) (.seq (.reg []
  [o1 92 (.move (.tmp 3)),
  o1 2 (.assign (.tmp 92))]) (.ret))))))))))
def mj43_0 : List Nat := [1, 3, 6, 7]
def mj43_1 : List Nat := [1, 4, 6, 7, 8, 9, 10, 11, 12, 13, 14, 15, 16, 17, 18, 19, 20, 21, 22, 23, 24, 25]
def mj43_2 : List Nat := [1, 2, 6, 7, 8, 9, 10, 11, 12, 13, 14, 15, 16, 17, 18, 19, 20, 21, 22, 23, 24, 25, 26, 27]
def mj43_3 : List Nat := [1, 2, 3, 4, 6, 7, 8, 9, 10, 11, 12, 13, 14, 15, 16, 17, 18, 19, 20, 21, 22, 23, 24, 25, 26, 27, 28, 29, 30, 31, 32, 33, 34, 35, 36, 37, 38, 39, 40, 41, 42, 43, 44, 45, 46, 47, 48, 49, 50, 51]
def mj43_4 : List Nat := [1, 2, 6, 7, 8, 9, 10, 11, 12, 13, 14, 15, 16, 17, 18, 19, 20, 21, 22, 23, 24, 25, 26, 27, 28, 29, 30, 31, 32, 33, 34, 35, 36, 37, 38, 39, 40, 41, 42, 43, 44, 45, 46, 47]
def mj43_5 : List Nat := [0, 1, 2, 3, 4, 5, 6, 7, 8, 9, 10, 11, 12, 13, 14, 15, 16, 17, 18, 19, 20, 21, 22, 23, 24, 25, 26, 27, 28, 29, 30, 31, 32, 33, 34, 35, 36, 37, 38, 39, 40, 41, 42, 43, 44, 45, 46, 47, 48, 49, 50, 51, 52, 53, 54, 55, 56, 57, 58, 59, 60, 61, 62, 63, 64, 65, 66, 67, 68, 69, 70, 71, 72, 73, 74, 75, 76, 77, 78, 79, 80, 81, 82, 83, 84, 85, 86, 87, 88, 89, 90, 91]
def mj43_6 : List Nat := [1, 5, 6, 7, 8, 9, 10, 11, 12, 13, 14, 15, 16, 17, 18, 19, 20, 21, 22, 23, 24, 25, 26, 27, 28, 29, 30, 31, 32, 33, 34, 35, 36, 37, 38, 39, 40, 41, 42, 43, 44, 45, 46, 47, 48, 49, 50, 51, 52, 53, 54, 55, 56, 57, 58, 59, 60, 61, 62, 63, 64, 65, 66, 67, 68, 69, 70, 71, 72, 73, 74, 75, 76, 77, 78, 79, 80, 81, 82]
def mj43_7 : List Nat := [0, 1, 2, 6, 7, 8, 9, 10, 11, 12, 13, 14, 15, 16, 17, 18, 19, 20, 21, 22, 23, 24, 25, 26, 27, 28, 29, 30, 31, 32, 33, 34, 35, 36, 37, 38, 39, 40, 41, 42, 43, 44, 45, 46, 47, 48, 49, 50, 51, 52, 53, 54, 55, 56, 57, 58, 59, 60, 61, 62, 63, 64, 65, 66, 67, 68, 69, 70, 71, 72, 73, 74, 75, 76, 77, 78, 79, 80, 81, 82, 83, 84, 85, 86, 87, 88]
theorem ls43 : Tryd.f43.body.map (strip Tryd.prog impCodN) = some lc43 := by kernel_rfl
theorem lcall43 : LC 43 93 lc43 [.tmp 2] := LC.of Tryd.func43 (by kernel_rfl) ls43 (by kernel_rfl) (by kernel_rfl)
end Go.Abs.S
namespace Go.Abs.S
attribute [local go_sem] lguard aopO aop aenv toAV tput aLoad aStore vcells aBin aNilI aUn aAlloc aBox aBuild aBSlice afill aConv isIntT aappZ aCap aArr aMM aMake aSlice bnd3 bnd aFldAddr aFld aIdxAddr aIdx aExt aLen aCopy aEq0 bAV aUb aapp aappQ agh acont List.getD_cons_zero List.getD_cons_succ List.set_cons_zero List.set_cons_succ List.getElem?_cons_zero List.getElem?_cons_succ List.length_cons List.length_nil List.map_cons List.map_nil ints_length if_true if_false Bool.false_eq_true true_and and_true eq_self ne_eq not_false_eq_true not_true_eq_false beq_self_eq_true Nat.zero_add Nat.add_zero Nat.mul_one Nat.zero_mul Int.toNat_natCast List.toList_toArray List.all_cons List.all_nil AV.one Value.oneCell' Bool.and_true Bool.true_and forall_const true_implies false_implies implies_true Option.map_some Option.map_none Option.isSome_some Option.isSome_none imp_self rdP_flat rdP_row splice_one ints_set ints_get List.append_nil List.cons_append List.nil_append List.getElem?_toArray List.drop_zero ints_drop ints_take List.take_of_length_le splice_all ints_one Option.some.injEq Option.getD_some List.length_replicate zArr List.map_replicate rep_ints splice_intsR List.length_set List.length_append List.flatten_replicate_singleton rep_slice rep_string rep_bool rep_iface List.replicate_zero if_pos if_neg List.mapM_cons List.mapM_nil Option.pure_def Option.bind_eq_bind Option.bind_some Bool.true_eq_false Bool.not_false Bool.not_true get_concat set_concat
open Go.Proofs
set_option linter.unusedVariables false
set_option linter.unusedSimpArgs false
set_option maxRecDepth 100000
set_option maxHeartbeats 4000000
def isD (c : UInt8) : Bool := decide ((c.toNat : Int) ≥ 48) && decide ((c.toNat : Int) ≤ 57)
/-- How many digits stand at a row's beginning. -/
def dgL : List UInt8 → Nat
  | [] => 0
  | c :: l => if isD c = true then dgL l + 1 else 0
theorem dgL_le : ∀ l : List UInt8, dgL l ≤ l.length
  | [] => Nat.le_refl _
  | c :: l => by
    have := dgL_le l
    rw [dgL, List.length_cons]
    split <;> omega
theorem dgL_step (l : List UInt8) (k : Nat) (h : k < l.length) : dgL (l.drop k) = if isD (l.getD k 0) = true then dgL (l.drop (k + 1)) + 1 else 0 := by
  rw [List.drop_eq_getElem_cons h, dgL, List.getD_eq_getElem?_getD, List.getElem?_eq_getElem h]
  rfl
theorem pdig_p (l : List UInt8) (hl : l.length ≤ 9223372036854775807) : PCall Tryd.prog glob 57 [.v (.string (bs l))] (.v (.int .i64 (dgL l))) := by
  refine PCall.of ctx.nr nrs (NR.v _) ?_
  refine lcall57 (by simp) 0 (Nat.le_refl _) ?_
  unfold lc57
  refine I1 tt ⟨?_⟩
  obtain ⟨V, hV⟩ : ∃ V, dgL l = V := ⟨_, rfl⟩
  rw [hV]
  refine G1 F4 tt tt tt tt ⟨?_⟩
  refine lavc_loopM ms57_0 (fun m (k : Nat) => m + k = l.length ∧ k + dgL (l.drop k) = V) (fun k => [(3, .v (.int .i64 k))]) (fun _ => []) l.length 0 ⟨by omega, by rw [List.drop_zero]; omega⟩ ?_ rfl ?_
  · try unfold ms57_0
    refine A1 tt ⟨?_⟩
    rfl
  rintro m k ⟨hk, hi⟩
  try unfold ms57_0
  refine M1 tt ⟨?_⟩
  by_cases hkl : k < l.length
  · rw [dgL_step l k hkl] at hi
    obtain ⟨c, hc⟩ : ∃ c, l.getD k 0 = c := ⟨_, rfl⟩
    rw [hc] at hi
    have d1 : decide ((k : Int) < l.length) = true := by rw [decide_eq_true_eq]; omega
    have e3 := i64n ((k : Int) + 1) (k + 1) (by omega) (by omega)
    obtain ⟨a, ha⟩ : ∃ a, decide ((c.toNat : Int) ≥ 48) = a := ⟨_, rfl⟩
    obtain ⟨b, hb⟩ : ∃ b, decide ((c.toNat : Int) ≤ 57) = b := ⟨_, rfl⟩
    have hD : isD c = (a && b) := by rw [← ha, ← hb]; rfl
    rw [hD] at hi
    cases a <;> cases b
    · rw [if_neg (by decide)] at hi
      refine G1 F4 (an d1 (an hc (an ha (an hb tt)))) tt tt tt ⟨?_⟩
      refine R1 tt ⟨?_⟩
      exact end0 (NR.v _) (by rw [← hi]; rfl)
    · rw [if_neg (by decide)] at hi
      refine G1 F4 (an d1 (an hc (an ha (an hb tt)))) tt tt tt ⟨?_⟩
      refine R1 tt ⟨?_⟩
      exact end0 (NR.v _) (by rw [← hi]; rfl)
    · rw [if_neg (by decide)] at hi
      refine G1 F4 (an d1 (an hc (an ha (an hb tt)))) tt tt tt ⟨?_⟩
      refine R1 tt ⟨?_⟩
      exact end0 (NR.v _) (by rw [← hi]; rfl)
    · rw [if_pos (by decide)] at hi
      refine G1 F4 (an d1 (an hc (an ha (an hb (an e3 tt))))) tt tt tt ⟨?_⟩
      refine ⟨m - 1, k + 1, by omega, ⟨by omega, by omega⟩, ?_, (by first | rfl | trivial)⟩
      try unfold ms57_0
      exact A0 tt
  · have hk2 : k = l.length := by omega
    rw [hk2, List.drop_length, dgL] at hi
    have d1 : decide ((k : Int) < l.length) = false := by rw [decide_eq_false_iff_not]; omega
    refine G1 F4 (an d1 tt) tt tt tt ⟨?_⟩
    refine R1 tt ⟨?_⟩
    exact end0 (NR.v _) (by rw [← hi, hk2]; rfl)
/-- The sign's, the whole part's length; the places behind the broken part and behind the power. -/
def sgL (l : List UInt8) : Nat := if [45].isPrefixOf l = true then 1 else 0
def intL (l : List UInt8) (at' : Nat) : Nat := if 1 < dgL (l.drop at') ∧ (l.getD at' 0).toNat = 48 then 1 else dgL (l.drop at')
def fracL (l : List UInt8) (a : Nat) : Option Nat := if a < l.length ∧ (l.getD a 0).toNat = 46 then (if dgL (l.drop (a + 1)) = 0 then none else some (a + (1 + dgL (l.drop (a + 1))))) else some a
def powS (l : List UInt8) (k : Nat) : Nat := if k < l.length ∧ ((l.getD k 0).toNat = 43 ∨ (l.getD k 0).toNat = 45) then k + 1 else k
def powL (l : List UInt8) (a : Nat) : Option Nat := if a < l.length ∧ ((l.getD a 0).toNat = 101 ∨ (l.getD a 0).toNat = 69) then (if dgL (l.drop (powS l (a + 1))) = 0 then none else some (powS l (a + 1) + dgL (l.drop (powS l (a + 1))))) else some a
/-- How many bytes the number at a row's beginning has; 0: there is none. -/
def nuL (l : List UInt8) : Nat := if intL l (sgL l) = 0 then 0 else ((fracL l (sgL l + intL l (sgL l))).bind (powL l)).getD 0
theorem sgL_le (l : List UInt8) : sgL l ≤ l.length := by
  unfold sgL
  split
  · rename_i h
    rw [List.isPrefixOf_iff_prefix] at h
    exact h.length_le
  · exact Nat.zero_le _
theorem dgd_le (l : List UInt8) (a : Nat) (h : a ≤ l.length) : a + dgL (l.drop a) ≤ l.length := by
  have := dgL_le (l.drop a)
  rw [List.length_drop] at this
  omega
theorem intL_le (l : List UInt8) (a : Nat) (h : a ≤ l.length) : a + intL l a ≤ l.length := by
  have := dgd_le l a h
  unfold intL
  split <;> omega
theorem powS_le (l : List UInt8) (k : Nat) (h : k ≤ l.length) : powS l k ≤ l.length := by
  unfold powS
  split <;> omega
theorem fracL_le (l : List UInt8) (a b : Nat) (h : a ≤ l.length) (hb : fracL l a = some b) : b ≤ l.length := by
  unfold fracL at hb
  split at hb
  · split at hb
    · cases hb
    · have := dgd_le l (a + 1) (by omega)
      injection hb
      omega
  · injection hb
    omega
theorem powL_le (l : List UInt8) (a b : Nat) (h : a ≤ l.length) (hb : powL l a = some b) : b ≤ l.length := by
  unfold powL at hb
  split at hb
  · split at hb
    · cases hb
    · have := dgd_le l _ (powS_le l (a + 1) (by omega))
      injection hb
      omega
  · injection hb
    omega
theorem or32 : ∀ c : Nat, c < 256 → (ibits .or .u8 (c : Int) 32 == 101) = (decide (c = 101) || decide (c = 69)) := by decide +kernel
theorem pnum_p (l : List UInt8) (hl : l.length ≤ 9223372036854775000) : PCall Tryd.prog glob 43 [.v (.string (bs l))] (.v (.int .i64 (nuL l))) := by
  refine PCall.of ctx.nr nrs (NR.v _) ?_
  refine lcall43 (by simp) 0 (Nat.le_refl _) ?_
  unfold lc43
  refine I1 tt ⟨?_⟩
  have hp : PCall Tryd.prog glob 56 [.v (.string (bs l)), .v (.string ⟨#[45]⟩)] (.v (.bool ([45].isPrefixOf l))) := pre_p l [45]
  obtain ⟨sg, hsg⟩ : ∃ b, ([45] : List UInt8).isPrefixOf l = b := ⟨_, rfl⟩
  have hs2 := sgL_le l
  have hs3 : sgL l = if sg = true then 1 else 0 := by rw [← hsg]; rfl
  rw [hsg] at hp
  refine G1 F1 tt (an hp.go tt) tt tt ⟨?_⟩
  refine lavc_join mj43_0 (fun (_ : Unit) => True) (fun _ => [(3, .v (.int .i64 (sgL l)))]) (fun _ => []) ?_ ?_
  · cases sg
    · rw [hs3]
      refine G1 F4 tt tt tt tt ⟨?_⟩
      refine ⟨(), trivial, ?_, (by first | rfl | trivial)⟩
      try unfold mj43_0
      refine A1 tt ⟨?_⟩
      rfl
    · rw [hs3]
      refine G1 F4 tt tt tt tt ⟨?_⟩
      refine ⟨(), trivial, ?_, (by first | rfl | trivial)⟩
      try unfold mj43_0
      refine A1 tt ⟨?_⟩
      rfl
  intro _ _
  try unfold mj43_0
  refine M1 tt ⟨?_⟩
  unfold nuL
  obtain ⟨a, ha⟩ : ∃ a, sgL l = a := ⟨_, rfl⟩
  rw [ha] at hs2 ⊢
  have dp : ∀ k, PCall Tryd.prog glob 57 [.v (.string (bs (l.drop k)))] (.v (.int .i64 (dgL (l.drop k)))) := fun k => pdig_p _ (by rw [List.length_drop]; omega)
  have i1 := intL_le l a hs2
  have i2 := dgd_le l a hs2
  have hal : ((a : Nat) : Int) ≤ l.length := by omega
  obtain ⟨n, hn⟩ : ∃ n, dgL (l.drop a) = n := ⟨_, rfl⟩
  rw [hn] at i2
  have da : PCall Tryd.prog glob 57 [.v (.string (bs (l.drop a)))] (.v (.int .i64 n)) := by rw [← hn]; exact dp a
  have hi : intL l a = if 1 < n ∧ (l.getD a 0).toNat = 48 then 1 else n := by rw [← hn]; rfl
  obtain ⟨c, hc⟩ : ∃ c, l.getD a 0 = c := ⟨_, rfl⟩
  rw [hc] at hi
  refine lavc_seq (lavc_reg ?_)
  refine G1 F6 tt (an da.go tt) tt tt ⟨?_⟩
  refine lavc_joinS (mj43_1 ++ [12, 13, 14, 15, 16, 17, 18, 19, 20, 21, 22, 23]) (fun (_ : Unit) => True) (fun _ => [(3, .v (.int .i64 a)), (4, .v (.int .i64 (intL l a)))]) (fun _ => []) ?_ ?_
  --43_1 (fun (_ : Unit) => True) (fun _ => [(3, .v (.int .i64 a)), (4, .v (.int .i64 (intL l a)))]) (fun _ => []) ?_ ?_
  · by_cases h0 : n = 0
    · subst h0
      rw [hi, if_neg (by omega)]
      refine G1 F4 tt tt tt tt ⟨?_⟩
      refine ⟨(), trivial, ?_, (by first | rfl | trivial)⟩
      refine ALe.mk ?_
      simp only [mj43_1, putAll, blank, List.foldl_cons, List.foldl_nil, List.set_cons_succ, List.set_cons_zero, List.cons_append, List.nil_append, ALe0, true_or, or_true, and_true, true_and, eq_self, reduceCtorEq, false_or, List.foldl_append]
      try rfl
    by_cases h1 : n = 1
    · subst h1
      rw [hi, if_neg (by omega)]
      refine G1 F4 tt tt tt tt ⟨?_⟩
      refine ⟨(), trivial, ?_, (by first | rfl | trivial)⟩
      refine ALe.mk ?_
      simp only [mj43_1, putAll, blank, List.foldl_cons, List.foldl_nil, List.set_cons_succ, List.set_cons_zero, List.cons_append, List.nil_append, ALe0, true_or, or_true, and_true, true_and, eq_self, reduceCtorEq, false_or, List.foldl_append]
      try rfl
    have q0 : ((n : Int) == 0) = false := by rw [beq_eq_false_iff_ne, ne_eq]; omega
    have d1 : decide ((n : Int) > 1) = true := by rw [decide_eq_true_eq]; omega
    by_cases h48 : c.toNat = 48
    · rw [hi, if_pos ⟨by omega, h48⟩]
      have q1 : (((c.toNat : Nat) : Int) == 48) = true := by rw [h48]; rfl
      have q2 : min (n : Int) 1 = 1 := by omega
      refine G1 F4 (an q0 (an d1 (an hc (an q1 (an q2 tt))))) tt tt tt ⟨?_⟩
      refine ⟨(), trivial, ?_, (by first | rfl | trivial)⟩
      refine ALe.mk ?_
      simp only [mj43_1, putAll, blank, List.foldl_cons, List.foldl_nil, List.set_cons_succ, List.set_cons_zero, List.cons_append, List.nil_append, ALe0, true_or, or_true, and_true, true_and, eq_self, reduceCtorEq, false_or, List.foldl_append]
      try rfl
    · rw [hi, if_neg (fun h => h48 h.2)]
      have q1 : (((c.toNat : Int) : Int) == 48) = false := by rw [beq_eq_false_iff_ne, ne_eq]; omega
      refine G1 F4 (an q0 (an d1 (an hc (an q1 tt)))) tt tt tt ⟨?_⟩
      refine ⟨(), trivial, ?_, (by first | rfl | trivial)⟩
      refine ALe.mk ?_
      simp only [mj43_1, putAll, blank, List.foldl_cons, List.foldl_nil, List.set_cons_succ, List.set_cons_zero, List.cons_append, List.nil_append, ALe0, true_or, or_true, and_true, true_and, eq_self, reduceCtorEq, false_or, List.foldl_append]
      try rfl
  intro _ _
  try unfold mj43_1
  refine M1 tt ⟨?_⟩
  obtain ⟨n, hn⟩ : ∃ n, intL l a = n := ⟨_, rfl⟩
  rw [hn] at i1 ⊢
  by_cases h0 : n = 0
  · subst h0
    rw [if_pos rfl]
    refine G1 F4 tt tt tt tt ⟨?_⟩
    refine R1 tt ⟨?_⟩
    exact end0 (NR.v _) rfl
  rw [if_neg h0]
  have q0 : ((n : Int) == 0) = false := by rw [beq_eq_false_iff_ne, ne_eq]; omega
  have e3 := i64n ((a : Int) + n) (a + n) (by omega) (by omega)
  obtain ⟨b, hb⟩ : ∃ b, a + n = b := ⟨_, rfl⟩
  rw [hb] at e3 i1 ⊢
  refine lavc_seq ?_
  refine lavc_seq (lavc_reg ?_)
  refine G1 F7 (an q0 tt) tt tt tt ⟨?_⟩
  refine lavc_seq (lavc_reg ?_)
  refine G1 F6 (an e3 tt) tt tt tt ⟨?_⟩
  refine lavc_joinS (mj43_3 ++ [31, 32, 33, 34, 35, 36, 37, 38, 39, 40]) (fun (x : Nat) => fracL l b = some x) (fun x => [(3, .v (.int .i64 x))]) (fun _ => []) ?_ ?_
  · obtain ⟨c, hc⟩ : ∃ c, l.getD b 0 = c := ⟨_, rfl⟩
    have hf : fracL l b = if b < l.length ∧ c.toNat = 46 then (if dgL (l.drop (b + 1)) = 0 then none else some (b + (1 + dgL (l.drop (b + 1))))) else some b := by rw [← hc]; rfl
    by_cases hbl : b < l.length
    · have d1 : decide ((b : Int) < l.length) = true := by rw [decide_eq_true_eq]; omega
      by_cases h46 : c.toNat = 46
      · rw [if_pos ⟨hbl, h46⟩] at hf
        have q1 : (((c.toNat : Nat) : Int) == 46) = true := by rw [h46]; rfl
        have i4 := dgd_le l (b + 1) (by omega)
        obtain ⟨n2, hn2⟩ : ∃ n, dgL (l.drop (b + 1)) = n := ⟨_, rfl⟩
        rw [hn2] at hf i4
        have da : PCall Tryd.prog glob 57 [.v (.string (bs (l.drop (b + 1))))] (.v (.int .i64 n2)) := by rw [← hn2]; exact dp _
        have e5 := i64n ((b : Int) + 1) (b + 1) (by omega) (by omega)
        by_cases h20 : n2 = 0
        · rw [if_pos h20] at hf
          subst h20
          rw [hf]
          refine G1 F4 (an d1 (an hc (an q1 (an e5 tt)))) (an da.go tt) tt tt ⟨?_⟩
          refine R1 tt ⟨?_⟩
          exact end0 (NR.v _) rfl
        · rw [if_neg h20] at hf
          have q2 : ((n2 : Int) == 0) = false := by rw [beq_eq_false_iff_ne, ne_eq]; omega
          have e6 := i64n ((1 : Int) + n2) (1 + n2) (by omega) (by omega)
          have e7 := i64n ((b : Int) + ((1 + n2 : Nat) : Int)) (b + (1 + n2)) (by omega) (by omega)
          refine G1 F4 (an d1 (an hc (an q1 (an q2 (an e5 (an e6 (an e7 tt))))))) (an da.go tt) tt tt ⟨?_⟩
          refine ⟨_, hf, ?_, (by first | rfl | trivial)⟩
          refine ALe.mk ?_
          simp only [mj43_3, putAll, blank, List.foldl_cons, List.foldl_nil, List.set_cons_succ, List.set_cons_zero, List.cons_append, List.nil_append, ALe0, true_or, or_true, and_true, true_and, eq_self, reduceCtorEq, false_or, List.foldl_append]
          try rfl
      · rw [if_neg (fun h => h46 h.2)] at hf
        have q1 : (((c.toNat : Int) : Int) == 46) = false := by rw [beq_eq_false_iff_ne, ne_eq]; omega
        refine G1 F4 (an d1 (an hc (an q1 tt))) tt tt tt ⟨?_⟩
        refine ⟨_, hf, ?_, (by first | rfl | trivial)⟩
        refine ALe.mk ?_
        simp only [mj43_3, putAll, blank, List.foldl_cons, List.foldl_nil, List.set_cons_succ, List.set_cons_zero, List.cons_append, List.nil_append, ALe0, true_or, or_true, and_true, true_and, eq_self, reduceCtorEq, false_or, List.foldl_append]
        try rfl
    · rw [if_neg (fun h => hbl h.1)] at hf
      have d1 : decide ((b : Int) < l.length) = false := by rw [decide_eq_false_iff_not]; omega
      refine G1 F4 (an d1 tt) tt tt tt ⟨?_⟩
      refine ⟨_, hf, ?_, (by first | rfl | trivial)⟩
      refine ALe.mk ?_
      simp only [mj43_3, putAll, blank, List.foldl_cons, List.foldl_nil, List.set_cons_succ, List.set_cons_zero, List.cons_append, List.nil_append, ALe0, true_or, or_true, and_true, true_and, eq_self, reduceCtorEq, false_or, List.foldl_append]
      try rfl
  intro b2 hb2
  have i3 := fracL_le l b b2 (by omega) hb2
  rw [hb2]
  try unfold mj43_3
  refine M1 tt ⟨?_⟩
  show lavc _ _ _ _ _ _
  obtain ⟨c, hc⟩ : ∃ c, l.getD b2 0 = c := ⟨_, rfl⟩
  have hf : powL l b2 = if b2 < l.length ∧ (c.toNat = 101 ∨ c.toNat = 69) then (if dgL (l.drop (powS l (b2 + 1))) = 0 then none else some (powS l (b2 + 1) + dgL (l.drop (powS l (b2 + 1))))) else some b2 := by rw [← hc]; rfl
  have o32 := or32 c.toNat c.toNat_lt
  rw [Option.bind_some]
  by_cases hbl : b2 < l.length
  · have d1 : decide ((b2 : Int) < l.length) = true := by rw [decide_eq_true_eq]; omega
    by_cases h101 : c.toNat = 101 ∨ c.toNat = 69
    · rw [if_pos ⟨hbl, h101⟩] at hf
      have q1 : (ibits .or .u8 (c.toNat : Int) 32 == 101) = true := by rw [o32]; rcases h101 with h | h <;> rw [h] <;> rfl
      have e5 := i64n ((b2 : Int) + 1) (b2 + 1) (by omega) (by omega)
      obtain ⟨k, hk⟩ : ∃ k, b2 + 1 = k := ⟨_, rfl⟩
      rw [hk] at hf e5
      have hkl : k ≤ l.length := by omega
      have i4 := dgd_le l (powS l k) (powS_le l k hkl)
      obtain ⟨c2, hc2⟩ : ∃ c, l.getD k 0 = c := ⟨_, rfl⟩
      have hps : powS l k = if k < l.length ∧ (c2.toNat = 43 ∨ c2.toNat = 45) then k + 1 else k := by rw [← hc2]; rfl
      obtain ⟨k2, hk2⟩ : ∃ x, powS l k = x := ⟨_, rfl⟩
      rw [hk2] at hf i4 hps
      obtain ⟨n2, hn2⟩ : ∃ n, dgL (l.drop k2) = n := ⟨_, rfl⟩
      have da : PCall Tryd.prog glob 57 [.v (.string (bs (l.drop k2)))] (.v (.int .i64 n2)) := by rw [← hn2]; exact dp _
      rw [hn2] at hf i4
      have e6 := i64n ((k2 : Int) + n2) (k2 + n2) (by omega) (by omega)
      have e7 := i64n ((k : Int) + 1) (k + 1) (by omega) (by omega)
      by_cases hkl2 : k < l.length
      · have d2 : decide ((k : Int) < l.length) = true := by rw [decide_eq_true_eq]; omega
        by_cases h43 : c2.toNat = 43
        · rw [if_pos ⟨hkl2, .inl h43⟩] at hps
          rw [← hps] at e7
          have q2 : (((c2.toNat : Nat) : Int) == 43) = true := by rw [h43]; rfl
          by_cases h20 : n2 = 0
          · rw [if_pos h20] at hf
            subst h20
            rw [hf]
            refine G1 F4 (an d1 (an hc (an q1 (an e5 (an d2 (an hc2 (an q2 (an e7 tt)))))))) (an da.go tt) tt tt ⟨?_⟩
            refine R1 tt ⟨?_⟩
            exact end0 (NR.v _) rfl
          · rw [if_neg h20] at hf
            rw [hf]
            have q3 : ((n2 : Int) == 0) = false := by rw [beq_eq_false_iff_ne, ne_eq]; omega
            refine G1 F4 (an d1 (an hc (an q1 (an e5 (an d2 (an hc2 (an q2 (an e7 (an q3 (an e6 tt)))))))))) (an da.go tt) tt tt ⟨?_⟩
            refine R1 tt ⟨?_⟩
            exact end0 (NR.v _) rfl
        have q2 : (((c2.toNat : Int) : Int) == 43) = false := by rw [beq_eq_false_iff_ne, ne_eq]; omega
        by_cases h45 : c2.toNat = 45
        · rw [if_pos ⟨hkl2, .inr h45⟩] at hps
          rw [← hps] at e7
          have q4 : (((c2.toNat : Nat) : Int) == 45) = true := by rw [h45]; rfl
          by_cases h20 : n2 = 0
          · rw [if_pos h20] at hf
            subst h20
            rw [hf]
            refine G1 F4 (an d1 (an hc (an q1 (an e5 (an d2 (an hc2 (an q2 (an q4 (an e7 tt))))))))) (an da.go tt) tt tt ⟨?_⟩
            refine R1 tt ⟨?_⟩
            exact end0 (NR.v _) rfl
          · rw [if_neg h20] at hf
            rw [hf]
            have q3 : ((n2 : Int) == 0) = false := by rw [beq_eq_false_iff_ne, ne_eq]; omega
            refine G1 F4 (an d1 (an hc (an q1 (an e5 (an d2 (an hc2 (an q2 (an q4 (an e7 (an q3 (an e6 tt))))))))))) (an da.go tt) tt tt ⟨?_⟩
            refine R1 tt ⟨?_⟩
            exact end0 (NR.v _) rfl
        · rw [if_neg (fun h => by omega)] at hps
          subst hps
          have q4 : (((c2.toNat : Int) : Int) == 45) = false := by rw [beq_eq_false_iff_ne, ne_eq]; omega
          by_cases h20 : n2 = 0
          · rw [if_pos h20] at hf
            subst h20
            rw [hf]
            refine G1 F4 (an d1 (an hc (an q1 (an e5 (an d2 (an hc2 (an q2 (an q4 tt)))))))) (an da.go tt) tt tt ⟨?_⟩
            refine R1 tt ⟨?_⟩
            exact end0 (NR.v _) rfl
          · rw [if_neg h20] at hf
            rw [hf]
            have q3 : ((n2 : Int) == 0) = false := by rw [beq_eq_false_iff_ne, ne_eq]; omega
            refine G1 F4 (an d1 (an hc (an q1 (an e5 (an d2 (an hc2 (an q2 (an q4 (an q3 (an e6 tt)))))))))) (an da.go tt) tt tt ⟨?_⟩
            refine R1 tt ⟨?_⟩
            exact end0 (NR.v _) rfl
      · rw [if_neg (fun h => hkl2 h.1)] at hps
        subst hps
        have d2 : decide ((k2 : Int) < l.length) = false := by rw [decide_eq_false_iff_not]; omega
        have h20 : n2 = 0 := by
          rw [← hn2, List.drop_of_length_le (by omega)]
          rfl
        rw [if_pos h20] at hf
        subst h20
        rw [hf]
        refine G1 F4 (an d1 (an hc (an q1 (an e5 (an d2 tt))))) (an da.go tt) tt tt ⟨?_⟩
        refine R1 tt ⟨?_⟩
        exact end0 (NR.v _) rfl
    · rw [if_neg (fun h => h101 h.2)] at hf
      have q1 : (ibits .or .u8 (c.toNat : Int) 32 == 101) = false := by
        rw [o32, decide_eq_false (fun h => h101 (.inl h)), decide_eq_false (fun h => h101 (.inr h))]
        rfl
      rw [hf]
      refine G1 F4 (an d1 (an hc (an q1 tt))) tt tt tt ⟨?_⟩
      refine R1 tt ⟨?_⟩
      exact end0 (NR.v _) rfl
  · rw [if_neg (fun h => hbl h.1)] at hf
    have d1 : decide ((b2 : Int) < l.length) = false := by rw [decide_eq_false_iff_not]; omega
    rw [hf]
    refine G1 F4 (an d1 tt) tt tt tt ⟨?_⟩
    refine R1 tt ⟨?_⟩
    exact end0 (NR.v _) rfl
end Go.Abs.S
