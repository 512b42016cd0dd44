/- Closed facts on the types of this seat's program. -/
import Derived.Test.YtkeacmonhjhgeaaDoorAbsKit
import Derived.Test.YtkeacmonhjhgeaaDoorProg
import Derived.KernelRfl
namespace Go.Abs.S
open Go.Proofs
theorem mixed : Tryd.prog.follows .mixedOrders = true := by kernel_rfl
set_option maxRecDepth 100000
def lay_escutcheon_api_Start512 : List Int := [7640891576956012808, 13503953896175478587, 4354685564936845355, 11912009170470909681, 5840696475078001361, 11170449401992604703, 2270897969802886507, 6620516959819538809]
def cells_escutcheon_api_Start512 : List Value := lay_escutcheon_api_Start512.map (Value.int .u64)
def av_escutcheon_api_Start512 : AV := .vptr (ints .u64 lay_escutcheon_api_Start512) 0
def lay_escutcheon_api_Turns : List Int := [0, 1, 2, 3, 4, 5, 6, 7, 8, 9, 10, 11, 12, 13, 14, 15, 14, 10, 4, 8, 9, 15, 13, 6, 1, 12, 0, 2, 11, 7, 5, 3, 11, 8, 12, 0, 5, 2, 15, 13, 10, 14, 3, 6, 7, 1, 9, 4, 7, 9, 3, 1, 13, 12, 11, 14, 2, 6, 5, 10, 4, 0, 15, 8, 9, 0, 5, 7, 2, 4, 10, 15, 14, 1, 11, 12, 6, 8, 3, 13, 2, 12, 6, 10, 0, 11, 8, 3, 4, 13, 7, 5, 15, 14, 1, 9, 12, 5, 1, 15, 14, 13, 4, 10, 0, 7, 6, 3, 9, 2, 8, 11, 13, 11, 7, 14, 12, 1, 3, 9, 5, 0, 15, 4, 8, 6, 2, 10, 6, 15, 14, 9, 11, 3, 0, 8, 12, 2, 13, 7, 1, 4, 10, 5, 10, 2, 8, 4, 7, 6, 1, 5, 15, 11, 9, 14, 3, 12, 13, 0]
def cells_escutcheon_api_Turns : List Value := lay_escutcheon_api_Turns.map (Value.int .i64)
def av_escutcheon_api_Turns : AV := .vptr (ints .i64 lay_escutcheon_api_Turns) 0
def lay_escutcheon_blake_places : List Int := [0, 4, 8, 12, 1, 5, 9, 13, 2, 6, 10, 14, 3, 7, 11, 15, 0, 5, 10, 15, 1, 6, 11, 12, 2, 7, 8, 13, 3, 4, 9, 14]
def cells_escutcheon_blake_places : List Value := lay_escutcheon_blake_places.map (Value.int .i64)
def av_escutcheon_blake_places : AV := .vptr (ints .i64 lay_escutcheon_blake_places) 0
/-- What is known of package-level variables. -/
def glob : Glob := fun g => if g = 0 then av_escutcheon_api_Start512 else if g = 1 then av_escutcheon_api_Turns else if g = 2 then av_escutcheon_blake_places else .any
theorem glob_escutcheon_api_Start512 : (match av_escutcheon_api_Start512 with | .vptr xs _ => xs | _ => []) = cells_escutcheon_api_Start512.map .v := by
  first | rfl | simp [av_escutcheon_api_Start512, cells_escutcheon_api_Start512, ints]
@[go_sem] theorem globat0 : glob 0 = .vptr (ints .u64 lay_escutcheon_api_Start512) 0 := rfl
theorem nr_escutcheon_api_Start512 : NR av_escutcheon_api_Start512 := NR.vptr (by
  intro c hc
  have h : c ∈ cells_escutcheon_api_Start512.map AV.v := by rw [← glob_escutcheon_api_Start512]; exact hc
  obtain ⟨x, _, rfl⟩ := List.mem_map.1 h
  exact NR.v x)
theorem glob_escutcheon_api_Turns : (match av_escutcheon_api_Turns with | .vptr xs _ => xs | _ => []) = cells_escutcheon_api_Turns.map .v := by
  first | rfl | simp [av_escutcheon_api_Turns, cells_escutcheon_api_Turns, ints]
@[go_sem] theorem globat1 : glob 1 = .vptr (ints .i64 lay_escutcheon_api_Turns) 0 := rfl
theorem nr_escutcheon_api_Turns : NR av_escutcheon_api_Turns := NR.vptr (by
  intro c hc
  have h : c ∈ cells_escutcheon_api_Turns.map AV.v := by rw [← glob_escutcheon_api_Turns]; exact hc
  obtain ⟨x, _, rfl⟩ := List.mem_map.1 h
  exact NR.v x)
theorem glob_escutcheon_blake_places : (match av_escutcheon_blake_places with | .vptr xs _ => xs | _ => []) = cells_escutcheon_blake_places.map .v := by
  first | rfl | simp [av_escutcheon_blake_places, cells_escutcheon_blake_places, ints]
@[go_sem] theorem globat2 : glob 2 = .vptr (ints .i64 lay_escutcheon_blake_places) 0 := rfl
theorem nr_escutcheon_blake_places : NR av_escutcheon_blake_places := NR.vptr (by
  intro c hc
  have h : c ∈ cells_escutcheon_blake_places.map AV.v := by rw [← glob_escutcheon_blake_places]; exact hc
  obtain ⟨x, _, rfl⟩ := List.mem_map.1 h
  exact NR.v x)
theorem glob_nr : GN glob := by
  intro g
  unfold glob
  by_cases e0 : g = 0
  · rw [if_pos e0]
    exact nr_escutcheon_api_Start512
  rw [if_neg e0]
  by_cases e1 : g = 1
  · rw [if_pos e1]
    exact nr_escutcheon_api_Turns
  rw [if_neg e1]
  by_cases e2 : g = 2
  · rw [if_pos e2]
    exact nr_escutcheon_blake_places
  rw [if_neg e2]
  exact NR.any
theorem ctx : Ctx Tryd.prog glob := ⟨glob_nr, mixed⟩
@[go_sem] theorem tsz2 : tsz Tryd.prog 2 = some 1 := by kernel_rfl
@[go_sem] theorem tby2 : tby Tryd.prog 2 = some 8 := by kernel_rfl
@[go_sem] theorem tzero2 : tzero Tryd.prog 2 = some (.int .i64 0) := by kernel_rfl
@[go_sem] theorem tsz3 : tsz Tryd.prog 3 = some 1 := by kernel_rfl
@[go_sem] theorem tby3 : tby Tryd.prog 3 = some 8 := by kernel_rfl
@[go_sem] theorem tzero3 : tzero Tryd.prog 3 = some (.int .i64 0) := by kernel_rfl
@[go_sem] theorem tsz4 : tsz Tryd.prog 4 = some 1 := by kernel_rfl
@[go_sem] theorem tby4 : tby Tryd.prog 4 = some 1 := by kernel_rfl
@[go_sem] theorem tzero4 : tzero Tryd.prog 4 = some (.bool false) := by kernel_rfl
@[go_sem] theorem tsz5 : tsz Tryd.prog 5 = some 1 := by kernel_rfl
@[go_sem] theorem tby5 : tby Tryd.prog 5 = some 1 := by kernel_rfl
@[go_sem] theorem tzero5 : tzero Tryd.prog 5 = some (.int .u8 0) := by kernel_rfl
@[go_sem] theorem tsz6 : tsz Tryd.prog 6 = some 1 := by kernel_rfl
@[go_sem] theorem tby6 : tby Tryd.prog 6 = some 1 := by kernel_rfl
@[go_sem] theorem tzero6 : tzero Tryd.prog 6 = some (.int .u8 0) := by kernel_rfl
@[go_sem] theorem tsz7 : tsz Tryd.prog 7 = some 4 := by kernel_rfl
@[go_sem] theorem tby7 : tby Tryd.prog 7 = some 24 := by kernel_rfl
@[go_sem] theorem tzero7 : tzero Tryd.prog 7 = some (.agg #[(.int .i64 0), (.int .i64 0), (.bool false), (.int .u8 0)]) := by kernel_rfl
@[go_sem] theorem tsz8 : tsz Tryd.prog 8 = some 4 := by kernel_rfl
@[go_sem] theorem tby8 : tby Tryd.prog 8 = some 24 := by kernel_rfl
@[go_sem] theorem tzero8 : tzero Tryd.prog 8 = some (.agg #[(.int .i64 0), (.int .i64 0), (.bool false), (.int .u8 0)]) := by kernel_rfl
@[go_sem] theorem tsz9 : tsz Tryd.prog 9 = some 1 := by kernel_rfl
@[go_sem] theorem tby9 : tby Tryd.prog 9 = some 16 := by kernel_rfl
@[go_sem] theorem tzero9 : tzero Tryd.prog 9 = some (.string ⟨#[]⟩) := by kernel_rfl
@[go_sem] theorem row9 : Row Tryd.prog 9 := .inr (by kernel_rfl)
@[go_sem] theorem tsz10 : tsz Tryd.prog 10 = some 1 := by kernel_rfl
@[go_sem] theorem tby10 : tby Tryd.prog 10 = some 16 := by kernel_rfl
@[go_sem] theorem tzero10 : tzero Tryd.prog 10 = some (.string ⟨#[]⟩) := by kernel_rfl
@[go_sem] theorem row10 : Row Tryd.prog 10 := .inr (by kernel_rfl)
@[go_sem] theorem tsz11 : tsz Tryd.prog 11 = some 1 := by kernel_rfl
@[go_sem] theorem tby11 : tby Tryd.prog 11 = some 16 := by kernel_rfl
@[go_sem] theorem tzero11 : tzero Tryd.prog 11 = some (.string ⟨#[]⟩) := by kernel_rfl
@[go_sem] theorem row11 : Row Tryd.prog 11 := .inr (by kernel_rfl)
@[go_sem] theorem tsz12 : tsz Tryd.prog 12 = some 1 := by kernel_rfl
@[go_sem] theorem tby12 : tby Tryd.prog 12 = some 8 := by kernel_rfl
@[go_sem] theorem tzero12 : tzero Tryd.prog 12 = some (.int .u64 0) := by kernel_rfl
@[go_sem] theorem tsz13 : tsz Tryd.prog 13 = some 2 := by kernel_rfl
@[go_sem] theorem tby13 : tby Tryd.prog 13 = some 24 := by kernel_rfl
@[go_sem] theorem tzero13 : tzero Tryd.prog 13 = some (.agg #[(.string ⟨#[]⟩), (.int .u64 0)]) := by kernel_rfl
@[go_sem] theorem tsz14 : tsz Tryd.prog 14 = some 2 := by kernel_rfl
@[go_sem] theorem tby14 : tby Tryd.prog 14 = some 24 := by kernel_rfl
@[go_sem] theorem tzero14 : tzero Tryd.prog 14 = some (.agg #[(.string ⟨#[]⟩), (.int .u64 0)]) := by kernel_rfl
@[go_sem] theorem tsz15 : tsz Tryd.prog 15 = some 1 := by kernel_rfl
@[go_sem] theorem tby15 : tby Tryd.prog 15 = some 8 := by kernel_rfl
@[go_sem] theorem tzero15 : tzero Tryd.prog 15 = some (.pointer none) := by kernel_rfl
@[go_sem] theorem tsz16 : tsz Tryd.prog 16 = some 1 := by kernel_rfl
@[go_sem] theorem tby16 : tby Tryd.prog 16 = some 8 := by kernel_rfl
@[go_sem] theorem tzero16 : tzero Tryd.prog 16 = some (.pointer none) := by kernel_rfl
@[go_sem] theorem tsz17 : tsz Tryd.prog 17 = some 1 := by kernel_rfl
@[go_sem] theorem tby17 : tby Tryd.prog 17 = some 8 := by kernel_rfl
@[go_sem] theorem tzero17 : tzero Tryd.prog 17 = some (.pointer none) := by kernel_rfl
@[go_sem] theorem tsz18 : tsz Tryd.prog 18 = some 1 := by kernel_rfl
@[go_sem] theorem tby18 : tby Tryd.prog 18 = some 8 := by kernel_rfl
@[go_sem] theorem tzero18 : tzero Tryd.prog 18 = some (.agg #[(.pointer none)]) := by kernel_rfl
@[go_sem] theorem tsz19 : tsz Tryd.prog 19 = some 1 := by kernel_rfl
@[go_sem] theorem tby19 : tby Tryd.prog 19 = some 8 := by kernel_rfl
@[go_sem] theorem tzero19 : tzero Tryd.prog 19 = some (.agg #[(.pointer none)]) := by kernel_rfl
@[go_sem] theorem tsz21 : tsz Tryd.prog 21 = some 1 := by kernel_rfl
@[go_sem] theorem tby21 : tby Tryd.prog 21 = some 4 := by kernel_rfl
@[go_sem] theorem tzero21 : tzero Tryd.prog 21 = some (.int .i32 0) := by kernel_rfl
@[go_sem] theorem tsz22 : tsz Tryd.prog 22 = some 1 := by kernel_rfl
@[go_sem] theorem tby22 : tby Tryd.prog 22 = some 24 := by kernel_rfl
@[go_sem] theorem tzero22 : tzero Tryd.prog 22 = some (.slice none 0 0) := by kernel_rfl
@[go_sem] theorem row22 : Row Tryd.prog 22 := .inl ⟨5, by kernel_rfl⟩
@[go_sem] theorem tsz23 : tsz Tryd.prog 23 = some 2 := by kernel_rfl
@[go_sem] theorem tby23 : tby Tryd.prog 23 = some 48 := by kernel_rfl
@[go_sem] theorem tzero23 : tzero Tryd.prog 23 = some (.agg #[(.slice none 0 0), (.slice none 0 0)]) := by kernel_rfl
@[go_sem] theorem tsz24 : tsz Tryd.prog 24 = some 4 := by kernel_rfl
@[go_sem] theorem tby24 : tby Tryd.prog 24 = some 32 := by kernel_rfl
@[go_sem] theorem tzero24 : tzero Tryd.prog 24 = some (zArr .i64 4) := by kernel_rfl
@[go_sem] theorem tsz25 : tsz Tryd.prog 25 = some 4 := by kernel_rfl
@[go_sem] theorem tby25 : tby Tryd.prog 25 = some 32 := by kernel_rfl
@[go_sem] theorem tzero25 : tzero Tryd.prog 25 = some (zArr .i64 4) := by kernel_rfl
@[go_sem] theorem tsz28 : tsz Tryd.prog 28 = some 1 := by kernel_rfl
@[go_sem] theorem tby28 : tby Tryd.prog 28 = some 8 := by kernel_rfl
@[go_sem] theorem tzero28 : tzero Tryd.prog 28 = some (.int .i64 0) := by kernel_rfl
@[go_sem] theorem tsz35 : tsz Tryd.prog 35 = some 1 := by kernel_rfl
@[go_sem] theorem tby35 : tby Tryd.prog 35 = some 8 := by kernel_rfl
@[go_sem] theorem tzero35 : tzero Tryd.prog 35 = some (.pointer none) := by kernel_rfl
@[go_sem] theorem tsz36 : tsz Tryd.prog 36 = some 1 := by kernel_rfl
@[go_sem] theorem tby36 : tby Tryd.prog 36 = some 24 := by kernel_rfl
@[go_sem] theorem tzero36 : tzero Tryd.prog 36 = some (.slice none 0 0) := by kernel_rfl
@[go_sem] theorem row36 : Row Tryd.prog 36 := .inl ⟨51, by kernel_rfl⟩
@[go_sem] theorem tsz37 : tsz Tryd.prog 37 = some 5 := by kernel_rfl
@[go_sem] theorem tby37 : tby Tryd.prog 37 = some 56 := by kernel_rfl
@[go_sem] theorem tzero37 : tzero Tryd.prog 37 = some (.agg #[(.int .i64 0), (.int .i64 0), (.int .i64 0), (.int .i64 0), (.slice none 0 0)]) := by kernel_rfl
@[go_sem] theorem tsz38 : tsz Tryd.prog 38 = some 5 := by kernel_rfl
@[go_sem] theorem tby38 : tby Tryd.prog 38 = some 56 := by kernel_rfl
@[go_sem] theorem tzero38 : tzero Tryd.prog 38 = some (.agg #[(.int .i64 0), (.int .i64 0), (.int .i64 0), (.int .i64 0), (.slice none 0 0)]) := by kernel_rfl
@[go_sem] theorem tsz44 : tsz Tryd.prog 44 = some 1 := by kernel_rfl
@[go_sem] theorem tby44 : tby Tryd.prog 44 = some 24 := by kernel_rfl
@[go_sem] theorem tzero44 : tzero Tryd.prog 44 = some (.slice none 0 0) := by kernel_rfl
@[go_sem] theorem row44 : Row Tryd.prog 44 := .inl ⟨22, by kernel_rfl⟩
@[go_sem] theorem tsz46 : tsz Tryd.prog 46 = some 5 := by kernel_rfl
@[go_sem] theorem tby46 : tby Tryd.prog 46 = some 40 := by kernel_rfl
@[go_sem] theorem tzero46 : tzero Tryd.prog 46 = some (zArr .i64 5) := by kernel_rfl
@[go_sem] theorem tsz51 : tsz Tryd.prog 51 = some 1 := by kernel_rfl
@[go_sem] theorem tby51 : tby Tryd.prog 51 = some 24 := by kernel_rfl
@[go_sem] theorem tzero51 : tzero Tryd.prog 51 = some (.slice none 0 0) := by kernel_rfl
@[go_sem] theorem row51 : Row Tryd.prog 51 := .inl ⟨22, by kernel_rfl⟩
@[go_sem] theorem tsz52 : tsz Tryd.prog 52 = some 1 := by kernel_rfl
@[go_sem] theorem tby52 : tby Tryd.prog 52 = some 24 := by kernel_rfl
@[go_sem] theorem tzero52 : tzero Tryd.prog 52 = some (.slice none 0 0) := by kernel_rfl
@[go_sem] theorem row52 : Row Tryd.prog 52 := .inl ⟨3, by kernel_rfl⟩
@[go_sem] theorem tsz54 : tsz Tryd.prog 54 = some 1 := by kernel_rfl
@[go_sem] theorem tby54 : tby Tryd.prog 54 = some 8 := by kernel_rfl
@[go_sem] theorem tzero54 : tzero Tryd.prog 54 = some (.int .u64 0) := by kernel_rfl
@[go_sem] theorem tsz55 : tsz Tryd.prog 55 = some 8 := by kernel_rfl
@[go_sem] theorem tby55 : tby Tryd.prog 55 = some 64 := by kernel_rfl
@[go_sem] theorem tzero55 : tzero Tryd.prog 55 = some (zArr .u64 8) := by kernel_rfl
@[go_sem] theorem tsz56 : tsz Tryd.prog 56 = some 8 := by kernel_rfl
@[go_sem] theorem tby56 : tby Tryd.prog 56 = some 64 := by kernel_rfl
@[go_sem] theorem tzero56 : tzero Tryd.prog 56 = some (zArr .u64 8) := by kernel_rfl
@[go_sem] theorem tsz57 : tsz Tryd.prog 57 = some 1 := by kernel_rfl
@[go_sem] theorem tby57 : tby Tryd.prog 57 = some 8 := by kernel_rfl
@[go_sem] theorem tzero57 : tzero Tryd.prog 57 = some (.int .u64 0) := by kernel_rfl
@[go_sem] theorem tsz65 : tsz Tryd.prog 65 = some 1 := by kernel_rfl
@[go_sem] theorem tby65 : tby Tryd.prog 65 = some 8 := by kernel_rfl
@[go_sem] theorem tzero65 : tzero Tryd.prog 65 = some (.pointer none) := by kernel_rfl
@[go_sem] theorem tsz66 : tsz Tryd.prog 66 = some 16 := by kernel_rfl
@[go_sem] theorem tby66 : tby Tryd.prog 66 = some 128 := by kernel_rfl
@[go_sem] theorem tzero66 : tzero Tryd.prog 66 = some (zArr .u64 16) := by kernel_rfl
@[go_sem] theorem tsz67 : tsz Tryd.prog 67 = some 16 := by kernel_rfl
@[go_sem] theorem tby67 : tby Tryd.prog 67 = some 128 := by kernel_rfl
@[go_sem] theorem tzero67 : tzero Tryd.prog 67 = some (zArr .u64 16) := by kernel_rfl
@[go_sem] theorem tsz68 : tsz Tryd.prog 68 = some 1 := by kernel_rfl
@[go_sem] theorem tby68 : tby Tryd.prog 68 = some 24 := by kernel_rfl
@[go_sem] theorem tzero68 : tzero Tryd.prog 68 = some (.slice none 0 0) := by kernel_rfl
@[go_sem] theorem row68 : Row Tryd.prog 68 := .inl ⟨54, by kernel_rfl⟩
@[go_sem] theorem tsz70 : tsz Tryd.prog 70 = some 16 := by kernel_rfl
@[go_sem] theorem tby70 : tby Tryd.prog 70 = some 128 := by kernel_rfl
@[go_sem] theorem tzero70 : tzero Tryd.prog 70 = some (zArr .i64 16) := by kernel_rfl
@[go_sem] theorem tsz71 : tsz Tryd.prog 71 = some 160 := by kernel_rfl
@[go_sem] theorem tby71 : tby Tryd.prog 71 = some 1280 := by kernel_rfl
@[go_sem] theorem tzero71 : tzero Tryd.prog 71 = some (zArr .i64 160) := by kernel_rfl
@[go_sem] theorem tsz72 : tsz Tryd.prog 72 = some 4 := by kernel_rfl
@[go_sem] theorem tby72 : tby Tryd.prog 72 = some 32 := by kernel_rfl
@[go_sem] theorem tzero72 : tzero Tryd.prog 72 = some (zArr .i64 4) := by kernel_rfl
@[go_sem] theorem tsz73 : tsz Tryd.prog 73 = some 32 := by kernel_rfl
@[go_sem] theorem tby73 : tby Tryd.prog 73 = some 256 := by kernel_rfl
@[go_sem] theorem tzero73 : tzero Tryd.prog 73 = some (zArr .i64 32) := by kernel_rfl
@[go_sem] theorem tsz78 : tsz Tryd.prog 78 = some 1 := by kernel_rfl
@[go_sem] theorem tby78 : tby Tryd.prog 78 = some 8 := by kernel_rfl
@[go_sem] theorem tzero78 : tzero Tryd.prog 78 = some (.pointer none) := by kernel_rfl
@[go_sem] theorem tsz81 : tsz Tryd.prog 81 = some 4 := by kernel_rfl
@[go_sem] theorem tby81 : tby Tryd.prog 81 = some 40 := by kernel_rfl
@[go_sem] theorem tzero81 : tzero Tryd.prog 81 = some (.agg #[(.pointer none), (.pointer none), (.pointer none), (.string ⟨#[]⟩)]) := by kernel_rfl
@[go_sem] theorem tsz82 : tsz Tryd.prog 82 = some 4 := by kernel_rfl
@[go_sem] theorem tby82 : tby Tryd.prog 82 = some 40 := by kernel_rfl
@[go_sem] theorem tzero82 : tzero Tryd.prog 82 = some (.agg #[(.pointer none), (.pointer none), (.pointer none), (.string ⟨#[]⟩)]) := by kernel_rfl
@[go_sem] theorem tsz83 : tsz Tryd.prog 83 = some 0 := by kernel_rfl
@[go_sem] theorem tby83 : tby Tryd.prog 83 = some 0 := by kernel_rfl
@[go_sem] theorem tzero83 : tzero Tryd.prog 83 = some (.agg #[]) := by kernel_rfl
@[go_sem] theorem tsz84 : tsz Tryd.prog 84 = some 0 := by kernel_rfl
@[go_sem] theorem tby84 : tby Tryd.prog 84 = some 0 := by kernel_rfl
@[go_sem] theorem tzero84 : tzero Tryd.prog 84 = some (.agg #[]) := by kernel_rfl
@[go_sem] theorem tsz85 : tsz Tryd.prog 85 = some 0 := by kernel_rfl
@[go_sem] theorem tby85 : tby Tryd.prog 85 = some 0 := by kernel_rfl
@[go_sem] theorem tzero85 : tzero Tryd.prog 85 = some (.agg #[]) := by kernel_rfl
@[go_sem] theorem tsz87 : tsz Tryd.prog 87 = some 1 := by kernel_rfl
@[go_sem] theorem tby87 : tby Tryd.prog 87 = some 4 := by kernel_rfl
@[go_sem] theorem tzero87 : tzero Tryd.prog 87 = some (.int .u32 0) := by kernel_rfl
@[go_sem] theorem tsz88 : tsz Tryd.prog 88 = some 1 := by kernel_rfl
@[go_sem] theorem tby88 : tby Tryd.prog 88 = some 1 := by kernel_rfl
@[go_sem] theorem tzero88 : tzero Tryd.prog 88 = some (.int .u8 0) := by kernel_rfl
@[go_sem] theorem tsz89 : tsz Tryd.prog 89 = some 1 := by kernel_rfl
@[go_sem] theorem tby89 : tby Tryd.prog 89 = some 1 := by kernel_rfl
@[go_sem] theorem tzero89 : tzero Tryd.prog 89 = some (.int .u8 0) := by kernel_rfl
@[go_sem] theorem tsz91 : tsz Tryd.prog 91 = some 1 := by kernel_rfl
@[go_sem] theorem tby91 : tby Tryd.prog 91 = some 8 := by kernel_rfl
@[go_sem] theorem tzero91 : tzero Tryd.prog 91 = some (.pointer none) := by kernel_rfl
@[go_sem] theorem tsz92 : tsz Tryd.prog 92 = some 1 := by kernel_rfl
@[go_sem] theorem tby92 : tby Tryd.prog 92 = some 4 := by kernel_rfl
@[go_sem] theorem tzero92 : tzero Tryd.prog 92 = some (.int .i32 0) := by kernel_rfl
@[go_sem] theorem tsz93 : tsz Tryd.prog 93 = some 1 := by kernel_rfl
@[go_sem] theorem tby93 : tby Tryd.prog 93 = some 4 := by kernel_rfl
@[go_sem] theorem tzero93 : tzero Tryd.prog 93 = some (.int .i32 0) := by kernel_rfl
@[go_sem] theorem tsz94 : tsz Tryd.prog 94 = some 11 := by kernel_rfl
@[go_sem] theorem tby94 : tby Tryd.prog 94 = some 48 := by kernel_rfl
@[go_sem] theorem tzero94 : tzero Tryd.prog 94 = some (.agg #[(.int .u64 0), (.int .u64 0), (.int .u32 0), (.int .u8 0), (.int .u8 0), (.int .u8 0), (.int .u8 0), .nilFunc, (.pointer none), (.int .i32 0), (.int .i32 0)]) := by kernel_rfl
@[go_sem] theorem tsz95 : tsz Tryd.prog 95 = some 11 := by kernel_rfl
@[go_sem] theorem tby95 : tby Tryd.prog 95 = some 48 := by kernel_rfl
@[go_sem] theorem tzero95 : tzero Tryd.prog 95 = some (.agg #[(.int .u64 0), (.int .u64 0), (.int .u32 0), (.int .u8 0), (.int .u8 0), (.int .u8 0), (.int .u8 0), .nilFunc, (.pointer none), (.int .i32 0), (.int .i32 0)]) := by kernel_rfl
@[go_sem] theorem und0 : Tryd.prog.underlying 0 = some (Go.TypeDesc.tuple #[]) := Tryd.underlying0
@[go_sem] theorem und1 : Tryd.prog.underlying 1 = some (Go.TypeDesc.func #[] #[] false) := Tryd.underlying1
@[go_sem] theorem und2 : Tryd.prog.underlying 2 = some (Go.TypeDesc.int Go.IntKind.i64) := Tryd.underlying2
@[go_sem] theorem und3 : Tryd.prog.underlying 3 = some (Go.TypeDesc.int Go.IntKind.i64) := Tryd.underlying3
@[go_sem] theorem und4 : Tryd.prog.underlying 4 = some Go.TypeDesc.bool := Tryd.underlying4
@[go_sem] theorem und5 : Tryd.prog.underlying 5 = some (Go.TypeDesc.int Go.IntKind.u8) := Tryd.underlying5
@[go_sem] theorem und6 : Tryd.prog.underlying 6 = some (Go.TypeDesc.int Go.IntKind.u8) := Tryd.underlying6
@[go_sem] theorem und7 : Tryd.prog.underlying 7 = some (Go.TypeDesc.struct #[{ name := "x", type := 2, offset := 0, embedded := false, tag := "", pkgPath := "runtime", byteOffset := 0 }, { name := "y", type := 3, offset := 1, embedded := false, tag := "", pkgPath := "runtime", byteOffset := 8 }, { name := "signed", type := 4, offset := 2, embedded := false, tag := "", pkgPath := "runtime", byteOffset := 16 }, { name := "code", type := 6, offset := 3, embedded := false, tag := "", pkgPath := "runtime", byteOffset := 17 }]) := Tryd.underlying7
@[go_sem] theorem und8 : Tryd.prog.underlying 8 = some (Go.TypeDesc.struct #[{ name := "x", type := 2, offset := 0, embedded := false, tag := "", pkgPath := "runtime", byteOffset := 0 }, { name := "y", type := 3, offset := 1, embedded := false, tag := "", pkgPath := "runtime", byteOffset := 8 }, { name := "signed", type := 4, offset := 2, embedded := false, tag := "", pkgPath := "runtime", byteOffset := 16 }, { name := "code", type := 6, offset := 3, embedded := false, tag := "", pkgPath := "runtime", byteOffset := 17 }]) := Tryd.underlying8
@[go_sem] theorem und9 : Tryd.prog.underlying 9 = some Go.TypeDesc.string := Tryd.underlying9
@[go_sem] theorem und10 : Tryd.prog.underlying 10 = some Go.TypeDesc.string := Tryd.underlying10
@[go_sem] theorem und11 : Tryd.prog.underlying 11 = some Go.TypeDesc.string := Tryd.underlying11
@[go_sem] theorem und12 : Tryd.prog.underlying 12 = some (Go.TypeDesc.int Go.IntKind.u64) := Tryd.underlying12
@[go_sem] theorem und13 : Tryd.prog.underlying 13 = some (Go.TypeDesc.struct #[{ name := "msg", type := 9, offset := 0, embedded := false, tag := "", pkgPath := "runtime", byteOffset := 0 }, { name := "addr", type := 12, offset := 1, embedded := false, tag := "", pkgPath := "runtime", byteOffset := 16 }]) := Tryd.underlying13
@[go_sem] theorem und14 : Tryd.prog.underlying 14 = some (Go.TypeDesc.struct #[{ name := "msg", type := 9, offset := 0, embedded := false, tag := "", pkgPath := "runtime", byteOffset := 0 }, { name := "addr", type := 12, offset := 1, embedded := false, tag := "", pkgPath := "runtime", byteOffset := 16 }]) := Tryd.underlying14
@[go_sem] theorem und15 : Tryd.prog.underlying 15 = some (Go.TypeDesc.pointer 82) := Tryd.underlying15
@[go_sem] theorem und16 : Tryd.prog.underlying 16 = some (Go.TypeDesc.pointer 85) := Tryd.underlying16
@[go_sem] theorem und17 : Tryd.prog.underlying 17 = some (Go.TypeDesc.pointer 95) := Tryd.underlying17
@[go_sem] theorem und18 : Tryd.prog.underlying 18 = some (Go.TypeDesc.struct #[{ name := "typ", type := 17, offset := 0, embedded := false, tag := "", pkgPath := "internal/runtime/maps", byteOffset := 0 }]) := Tryd.underlying18
@[go_sem] theorem und19 : Tryd.prog.underlying 19 = some (Go.TypeDesc.struct #[{ name := "typ", type := 17, offset := 0, embedded := false, tag := "", pkgPath := "internal/runtime/maps", byteOffset := 0 }]) := Tryd.underlying19
@[go_sem] theorem und20 : Tryd.prog.underlying 20 = some (Go.TypeDesc.interface #[]) := Tryd.underlying20
@[go_sem] theorem und21 : Tryd.prog.underlying 21 = some (Go.TypeDesc.int Go.IntKind.i32) := Tryd.underlying21
@[go_sem] theorem und22 : Tryd.prog.underlying 22 = some (Go.TypeDesc.slice 5) := Tryd.underlying22
@[go_sem] theorem und23 : Tryd.prog.underlying 23 = some (Go.TypeDesc.array 2 22) := Tryd.underlying23
@[go_sem] theorem und24 : Tryd.prog.underlying 24 = some (Go.TypeDesc.struct #[{ name := "Memory", type := 3, offset := 0, embedded := false, tag := "", pkgPath := "", byteOffset := 0 }, { name := "Passes", type := 3, offset := 1, embedded := false, tag := "", pkgPath := "", byteOffset := 8 }, { name := "Lanes", type := 3, offset := 2, embedded := false, tag := "", pkgPath := "", byteOffset := 16 }, { name := "Rounds", type := 3, offset := 3, embedded := false, tag := "", pkgPath := "", byteOffset := 24 }]) := Tryd.underlying24
@[go_sem] theorem und25 : Tryd.prog.underlying 25 = some (Go.TypeDesc.struct #[{ name := "Memory", type := 3, offset := 0, embedded := false, tag := "", pkgPath := "", byteOffset := 0 }, { name := "Passes", type := 3, offset := 1, embedded := false, tag := "", pkgPath := "", byteOffset := 8 }, { name := "Lanes", type := 3, offset := 2, embedded := false, tag := "", pkgPath := "", byteOffset := 16 }, { name := "Rounds", type := 3, offset := 3, embedded := false, tag := "", pkgPath := "", byteOffset := 24 }]) := Tryd.underlying25
@[go_sem] theorem und26 : Tryd.prog.underlying 26 = some (Go.TypeDesc.func #[] #[4] false) := Tryd.underlying26
@[go_sem] theorem und27 : Tryd.prog.underlying 27 = some (Go.TypeDesc.func #[25] #[4] false) := Tryd.underlying27
@[go_sem] theorem und28 : Tryd.prog.underlying 28 = some (Go.TypeDesc.int Go.IntKind.i64) := Tryd.underlying28
@[go_sem] theorem und29 : Tryd.prog.underlying 29 = some (Go.TypeDesc.tuple #[22, 28]) := Tryd.underlying29
@[go_sem] theorem und30 : Tryd.prog.underlying 30 = some (Go.TypeDesc.func #[22, 22, 25, 3] #[22, 28] false) := Tryd.underlying30
@[go_sem] theorem und31 : Tryd.prog.underlying 31 = some (Go.TypeDesc.func #[22, 22, 25, 3] #[22] false) := Tryd.underlying31
@[go_sem] theorem und32 : Tryd.prog.underlying 32 = some (Go.TypeDesc.func #[23, 25, 3] #[4] false) := Tryd.underlying32
@[go_sem] theorem und33 : Tryd.prog.underlying 33 = some (Go.TypeDesc.func #[23, 5, 5] #[4] false) := Tryd.underlying33
@[go_sem] theorem und34 : Tryd.prog.underlying 34 = some (Go.TypeDesc.func #[3, 3, 3] #[4] false) := Tryd.underlying34
@[go_sem] theorem und35 : Tryd.prog.underlying 35 = some (Go.TypeDesc.pointer 38) := Tryd.underlying35
@[go_sem] theorem und36 : Tryd.prog.underlying 36 = some (Go.TypeDesc.slice 51) := Tryd.underlying36
@[go_sem] theorem und37 : Tryd.prog.underlying 37 = some (Go.TypeDesc.struct #[{ name := "Cost", type := 25, offset := 0, embedded := true, tag := "", pkgPath := "", byteOffset := 0 }, { name := "lanes", type := 36, offset := 4, embedded := false, tag := "", pkgPath := "escutcheon/cellar", byteOffset := 32 }]) := Tryd.underlying37
@[go_sem] theorem und38 : Tryd.prog.underlying 38 = some (Go.TypeDesc.struct #[{ name := "Cost", type := 25, offset := 0, embedded := true, tag := "", pkgPath := "", byteOffset := 0 }, { name := "lanes", type := 36, offset := 4, embedded := false, tag := "", pkgPath := "escutcheon/cellar", byteOffset := 32 }]) := Tryd.underlying38
@[go_sem] theorem und39 : Tryd.prog.underlying 39 = some (Go.TypeDesc.func #[22] #[] false) := Tryd.underlying39
@[go_sem] theorem und40 : Tryd.prog.underlying 40 = some (Go.TypeDesc.func #[44] #[22] true) := Tryd.underlying40
@[go_sem] theorem und41 : Tryd.prog.underlying 41 = some (Go.TypeDesc.func #[52] #[22] true) := Tryd.underlying41
@[go_sem] theorem und42 : Tryd.prog.underlying 42 = some (Go.TypeDesc.func #[3, 3, 3] #[] false) := Tryd.underlying42
@[go_sem] theorem und43 : Tryd.prog.underlying 43 = some (Go.TypeDesc.func #[3, 22, 44] #[22, 28] true) := Tryd.underlying43
@[go_sem] theorem und44 : Tryd.prog.underlying 44 = some (Go.TypeDesc.slice 22) := Tryd.underlying44
@[go_sem] theorem und45 : Tryd.prog.underlying 45 = some (Go.TypeDesc.func #[] #[44] false) := Tryd.underlying45
@[go_sem] theorem und46 : Tryd.prog.underlying 46 = some (Go.TypeDesc.array 5 3) := Tryd.underlying46
@[go_sem] theorem und47 : Tryd.prog.underlying 47 = some (Go.TypeDesc.func #[3] #[22] false) := Tryd.underlying47
@[go_sem] theorem und48 : Tryd.prog.underlying 48 = some (Go.TypeDesc.func #[44] #[22] false) := Tryd.underlying48
@[go_sem] theorem und49 : Tryd.prog.underlying 49 = some (Go.TypeDesc.func #[22] #[3] false) := Tryd.underlying49
@[go_sem] theorem und50 : Tryd.prog.underlying 50 = some (Go.TypeDesc.func #[3, 22, 22] #[22] false) := Tryd.underlying50
@[go_sem] theorem und51 : Tryd.prog.underlying 51 = some (Go.TypeDesc.slice 22) := Tryd.underlying51
@[go_sem] theorem und52 : Tryd.prog.underlying 52 = some (Go.TypeDesc.slice 3) := Tryd.underlying52
@[go_sem] theorem und53 : Tryd.prog.underlying 53 = some (Go.TypeDesc.func #[3, 3, 3, 3] #[22] false) := Tryd.underlying53
@[go_sem] theorem und54 : Tryd.prog.underlying 54 = some (Go.TypeDesc.int Go.IntKind.u64) := Tryd.underlying54
@[go_sem] theorem und55 : Tryd.prog.underlying 55 = some (Go.TypeDesc.array 8 54) := Tryd.underlying55
@[go_sem] theorem und56 : Tryd.prog.underlying 56 = some (Go.TypeDesc.array 8 54) := Tryd.underlying56
@[go_sem] theorem und57 : Tryd.prog.underlying 57 = some (Go.TypeDesc.int Go.IntKind.u64) := Tryd.underlying57
@[go_sem] theorem und58 : Tryd.prog.underlying 58 = some (Go.TypeDesc.func #[22] #[22] false) := Tryd.underlying58
@[go_sem] theorem und59 : Tryd.prog.underlying 59 = some (Go.TypeDesc.func #[22, 3, 4] #[] false) := Tryd.underlying59
@[go_sem] theorem und60 : Tryd.prog.underlying 60 = some (Go.TypeDesc.func #[55, 22, 3, 4] #[55] false) := Tryd.underlying60
@[go_sem] theorem und61 : Tryd.prog.underlying 61 = some (Go.TypeDesc.func #[77] #[] false) := Tryd.underlying61
@[go_sem] theorem und62 : Tryd.prog.underlying 62 = some (Go.TypeDesc.func #[77] #[] false) := Tryd.underlying62
@[go_sem] theorem und63 : Tryd.prog.underlying 63 = some (Go.TypeDesc.func #[22] #[62] false) := Tryd.underlying63
@[go_sem] theorem und64 : Tryd.prog.underlying 64 = some (Go.TypeDesc.func #[22, 3] #[22] false) := Tryd.underlying64
@[go_sem] theorem und65 : Tryd.prog.underlying 65 = some (Go.TypeDesc.pointer 56) := Tryd.underlying65
@[go_sem] theorem und66 : Tryd.prog.underlying 66 = some (Go.TypeDesc.array 16 54) := Tryd.underlying66
@[go_sem] theorem und67 : Tryd.prog.underlying 67 = some (Go.TypeDesc.array 16 54) := Tryd.underlying67
@[go_sem] theorem und68 : Tryd.prog.underlying 68 = some (Go.TypeDesc.slice 54) := Tryd.underlying68
@[go_sem] theorem und69 : Tryd.prog.underlying 69 = some (Go.TypeDesc.func #[22] #[66] false) := Tryd.underlying69
@[go_sem] theorem und70 : Tryd.prog.underlying 70 = some (Go.TypeDesc.array 16 3) := Tryd.underlying70
@[go_sem] theorem und71 : Tryd.prog.underlying 71 = some (Go.TypeDesc.array 10 70) := Tryd.underlying71
@[go_sem] theorem und72 : Tryd.prog.underlying 72 = some (Go.TypeDesc.array 4 3) := Tryd.underlying72
@[go_sem] theorem und73 : Tryd.prog.underlying 73 = some (Go.TypeDesc.array 8 72) := Tryd.underlying73
@[go_sem] theorem und74 : Tryd.prog.underlying 74 = some (Go.TypeDesc.func #[72, 54, 54] #[] false) := Tryd.underlying74
@[go_sem] theorem und75 : Tryd.prog.underlying 75 = some (Go.TypeDesc.func #[66, 3, 3, 3, 3, 54, 54] #[66] false) := Tryd.underlying75
@[go_sem] theorem und76 : Tryd.prog.underlying 76 = some (Go.TypeDesc.func #[22, 3] #[54] false) := Tryd.underlying76
@[go_sem] theorem und77 : Tryd.prog.underlying 77 = some (Go.TypeDesc.func #[3, 5] #[4] false) := Tryd.underlying77
@[go_sem] theorem und78 : Tryd.prog.underlying 78 = some (Go.TypeDesc.pointer 67) := Tryd.underlying78
@[go_sem] theorem und79 : Tryd.prog.underlying 79 = some (Go.TypeDesc.func #[54, 3] #[54] false) := Tryd.underlying79
@[go_sem] theorem und80 : Tryd.prog.underlying 80 = some (Go.TypeDesc.func #[] #[9] false) := Tryd.underlying80
@[go_sem] theorem und81 : Tryd.prog.underlying 81 = some (Go.TypeDesc.struct #[{ name := "_interface", type := 17, offset := 0, embedded := false, tag := "", pkgPath := "runtime", byteOffset := 0 }, { name := "concrete", type := 17, offset := 1, embedded := false, tag := "", pkgPath := "runtime", byteOffset := 8 }, { name := "asserted", type := 17, offset := 2, embedded := false, tag := "", pkgPath := "runtime", byteOffset := 16 }, { name := "missingMethod", type := 9, offset := 3, embedded := false, tag := "", pkgPath := "runtime", byteOffset := 24 }]) := Tryd.underlying81
@[go_sem] theorem und82 : Tryd.prog.underlying 82 = some (Go.TypeDesc.struct #[{ name := "_interface", type := 17, offset := 0, embedded := false, tag := "", pkgPath := "runtime", byteOffset := 0 }, { name := "concrete", type := 17, offset := 1, embedded := false, tag := "", pkgPath := "runtime", byteOffset := 8 }, { name := "asserted", type := 17, offset := 2, embedded := false, tag := "", pkgPath := "runtime", byteOffset := 16 }, { name := "missingMethod", type := 9, offset := 3, embedded := false, tag := "", pkgPath := "runtime", byteOffset := 24 }]) := Tryd.underlying82
@[go_sem] theorem und83 : Tryd.prog.underlying 83 = some (Go.TypeDesc.array 0 16) := Tryd.underlying83
@[go_sem] theorem und84 : Tryd.prog.underlying 84 = some (Go.TypeDesc.struct #[{ name := "_", type := 83, offset := 0, embedded := false, tag := "", pkgPath := "runtime", byteOffset := 0 }]) := Tryd.underlying84
@[go_sem] theorem und85 : Tryd.prog.underlying 85 = some (Go.TypeDesc.struct #[{ name := "_", type := 83, offset := 0, embedded := false, tag := "", pkgPath := "runtime", byteOffset := 0 }]) := Tryd.underlying85
@[go_sem] theorem und86 : Tryd.prog.underlying 86 = some (Go.TypeDesc.func #[] #[3] false) := Tryd.underlying86
@[go_sem] theorem und87 : Tryd.prog.underlying 87 = some (Go.TypeDesc.int Go.IntKind.u32) := Tryd.underlying87
@[go_sem] theorem und88 : Tryd.prog.underlying 88 = some (Go.TypeDesc.int Go.IntKind.u8) := Tryd.underlying88
@[go_sem] theorem und89 : Tryd.prog.underlying 89 = some (Go.TypeDesc.int Go.IntKind.u8) := Tryd.underlying89
@[go_sem] theorem und90 : Tryd.prog.underlying 90 = some (Go.TypeDesc.func #[96, 96] #[4] false) := Tryd.underlying90
@[go_sem] theorem und91 : Tryd.prog.underlying 91 = some (Go.TypeDesc.pointer 5) := Tryd.underlying91
@[go_sem] theorem und92 : Tryd.prog.underlying 92 = some (Go.TypeDesc.int Go.IntKind.i32) := Tryd.underlying92
@[go_sem] theorem und93 : Tryd.prog.underlying 93 = some (Go.TypeDesc.int Go.IntKind.i32) := Tryd.underlying93
@[go_sem] theorem und94 : Tryd.prog.underlying 94 = some (Go.TypeDesc.struct #[{ name := "Size_", type := 12, offset := 0, embedded := false, tag := "", pkgPath := "", byteOffset := 0 }, { name := "PtrBytes", type := 12, offset := 1, embedded := false, tag := "", pkgPath := "", byteOffset := 8 }, { name := "Hash", type := 87, offset := 2, embedded := false, tag := "", pkgPath := "", byteOffset := 16 }, { name := "TFlag", type := 88, offset := 3, embedded := false, tag := "", pkgPath := "", byteOffset := 20 }, { name := "Align_", type := 5, offset := 4, embedded := false, tag := "", pkgPath := "", byteOffset := 21 }, { name := "FieldAlign_", type := 5, offset := 5, embedded := false, tag := "", pkgPath := "", byteOffset := 22 }, { name := "Kind_", type := 89, offset := 6, embedded := false, tag := "", pkgPath := "", byteOffset := 23 }, { name := "Equal", type := 90, offset := 7, embedded := false, tag := "", pkgPath := "", byteOffset := 24 }, { name := "GCData", type := 91, offset := 8, embedded := false, tag := "", pkgPath := "", byteOffset := 32 }, { name := "Str", type := 92, offset := 9, embedded := false, tag := "", pkgPath := "", byteOffset := 40 }, { name := "PtrToThis", type := 93, offset := 10, embedded := false, tag := "", pkgPath := "", byteOffset := 44 }]) := Tryd.underlying94
@[go_sem] theorem und95 : Tryd.prog.underlying 95 = some (Go.TypeDesc.struct #[{ name := "Size_", type := 12, offset := 0, embedded := false, tag := "", pkgPath := "", byteOffset := 0 }, { name := "PtrBytes", type := 12, offset := 1, embedded := false, tag := "", pkgPath := "", byteOffset := 8 }, { name := "Hash", type := 87, offset := 2, embedded := false, tag := "", pkgPath := "", byteOffset := 16 }, { name := "TFlag", type := 88, offset := 3, embedded := false, tag := "", pkgPath := "", byteOffset := 20 }, { name := "Align_", type := 5, offset := 4, embedded := false, tag := "", pkgPath := "", byteOffset := 21 }, { name := "FieldAlign_", type := 5, offset := 5, embedded := false, tag := "", pkgPath := "", byteOffset := 22 }, { name := "Kind_", type := 89, offset := 6, embedded := false, tag := "", pkgPath := "", byteOffset := 23 }, { name := "Equal", type := 90, offset := 7, embedded := false, tag := "", pkgPath := "", byteOffset := 24 }, { name := "GCData", type := 91, offset := 8, embedded := false, tag := "", pkgPath := "", byteOffset := 32 }, { name := "Str", type := 92, offset := 9, embedded := false, tag := "", pkgPath := "", byteOffset := 40 }, { name := "PtrToThis", type := 93, offset := 10, embedded := false, tag := "", pkgPath := "", byteOffset := 44 }]) := Tryd.underlying95
@[go_sem] theorem und96 : Tryd.prog.underlying 96 = some Go.TypeDesc.unsafePointer := Tryd.underlying96
end Go.Abs.S
