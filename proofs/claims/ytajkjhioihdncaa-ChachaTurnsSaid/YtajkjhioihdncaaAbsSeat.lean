/- Closed facts on the types of this seat's program. -/
import Derived.Test.YtajkjhioihdncaaAbsKit
import Derived.Test.YtajkjhioihdncaaProg
import Derived.KernelRfl
namespace Go.Abs.S
open Go.Proofs
theorem mixed : Try.prog.follows .mixedOrders = true := by kernel_rfl
set_option maxRecDepth 100000
/-- What is known of package-level variables. -/
def glob : Glob := fun _ => .any
theorem glob_nr : GN glob := by
  intro g
  unfold glob
  exact NR.any
theorem ctx : Ctx Try.prog glob := ⟨glob_nr, mixed⟩
@[go_sem] theorem tsz2 : tsz Try.prog 2 = some 1 := by kernel_rfl
@[go_sem] theorem tby2 : tby Try.prog 2 = some 8 := by kernel_rfl
@[go_sem] theorem tzero2 : tzero Try.prog 2 = some (.int .i64 0) := by kernel_rfl
@[go_sem] theorem tsz3 : tsz Try.prog 3 = some 1 := by kernel_rfl
@[go_sem] theorem tby3 : tby Try.prog 3 = some 8 := by kernel_rfl
@[go_sem] theorem tzero3 : tzero Try.prog 3 = some (.int .i64 0) := by kernel_rfl
@[go_sem] theorem tsz4 : tsz Try.prog 4 = some 1 := by kernel_rfl
@[go_sem] theorem tby4 : tby Try.prog 4 = some 1 := by kernel_rfl
@[go_sem] theorem tzero4 : tzero Try.prog 4 = some (.bool false) := by kernel_rfl
@[go_sem] theorem tsz5 : tsz Try.prog 5 = some 1 := by kernel_rfl
@[go_sem] theorem tby5 : tby Try.prog 5 = some 1 := by kernel_rfl
@[go_sem] theorem tzero5 : tzero Try.prog 5 = some (.int .u8 0) := by kernel_rfl
@[go_sem] theorem tsz6 : tsz Try.prog 6 = some 1 := by kernel_rfl
@[go_sem] theorem tby6 : tby Try.prog 6 = some 1 := by kernel_rfl
@[go_sem] theorem tzero6 : tzero Try.prog 6 = some (.int .u8 0) := by kernel_rfl
@[go_sem] theorem tsz7 : tsz Try.prog 7 = some 4 := by kernel_rfl
@[go_sem] theorem tby7 : tby Try.prog 7 = some 24 := by kernel_rfl
@[go_sem] theorem tzero7 : tzero Try.prog 7 = some (.agg #[(.int .i64 0), (.int .i64 0), (.bool false), (.int .u8 0)]) := by kernel_rfl
@[go_sem] theorem tsz8 : tsz Try.prog 8 = some 4 := by kernel_rfl
@[go_sem] theorem tby8 : tby Try.prog 8 = some 24 := by kernel_rfl
@[go_sem] theorem tzero8 : tzero Try.prog 8 = some (.agg #[(.int .i64 0), (.int .i64 0), (.bool false), (.int .u8 0)]) := by kernel_rfl
@[go_sem] theorem tsz9 : tsz Try.prog 9 = some 1 := by kernel_rfl
@[go_sem] theorem tby9 : tby Try.prog 9 = some 16 := by kernel_rfl
@[go_sem] theorem tzero9 : tzero Try.prog 9 = some (.string ⟨#[]⟩) := by kernel_rfl
@[go_sem] theorem row9 : Row Try.prog 9 := .inr (by kernel_rfl)
@[go_sem] theorem tsz10 : tsz Try.prog 10 = some 1 := by kernel_rfl
@[go_sem] theorem tby10 : tby Try.prog 10 = some 16 := by kernel_rfl
@[go_sem] theorem tzero10 : tzero Try.prog 10 = some (.string ⟨#[]⟩) := by kernel_rfl
@[go_sem] theorem row10 : Row Try.prog 10 := .inr (by kernel_rfl)
@[go_sem] theorem tsz11 : tsz Try.prog 11 = some 1 := by kernel_rfl
@[go_sem] theorem tby11 : tby Try.prog 11 = some 16 := by kernel_rfl
@[go_sem] theorem tzero11 : tzero Try.prog 11 = some (.string ⟨#[]⟩) := by kernel_rfl
@[go_sem] theorem row11 : Row Try.prog 11 := .inr (by kernel_rfl)
@[go_sem] theorem tsz12 : tsz Try.prog 12 = some 1 := by kernel_rfl
@[go_sem] theorem tby12 : tby Try.prog 12 = some 8 := by kernel_rfl
@[go_sem] theorem tzero12 : tzero Try.prog 12 = some (.int .u64 0) := by kernel_rfl
@[go_sem] theorem tsz13 : tsz Try.prog 13 = some 2 := by kernel_rfl
@[go_sem] theorem tby13 : tby Try.prog 13 = some 24 := by kernel_rfl
@[go_sem] theorem tzero13 : tzero Try.prog 13 = some (.agg #[(.string ⟨#[]⟩), (.int .u64 0)]) := by kernel_rfl
@[go_sem] theorem tsz14 : tsz Try.prog 14 = some 2 := by kernel_rfl
@[go_sem] theorem tby14 : tby Try.prog 14 = some 24 := by kernel_rfl
@[go_sem] theorem tzero14 : tzero Try.prog 14 = some (.agg #[(.string ⟨#[]⟩), (.int .u64 0)]) := by kernel_rfl
@[go_sem] theorem tsz15 : tsz Try.prog 15 = some 1 := by kernel_rfl
@[go_sem] theorem tby15 : tby Try.prog 15 = some 8 := by kernel_rfl
@[go_sem] theorem tzero15 : tzero Try.prog 15 = some (.pointer none) := by kernel_rfl
@[go_sem] theorem tsz16 : tsz Try.prog 16 = some 1 := by kernel_rfl
@[go_sem] theorem tby16 : tby Try.prog 16 = some 8 := by kernel_rfl
@[go_sem] theorem tzero16 : tzero Try.prog 16 = some (.pointer none) := by kernel_rfl
@[go_sem] theorem tsz17 : tsz Try.prog 17 = some 1 := by kernel_rfl
@[go_sem] theorem tby17 : tby Try.prog 17 = some 8 := by kernel_rfl
@[go_sem] theorem tzero17 : tzero Try.prog 17 = some (.pointer none) := by kernel_rfl
@[go_sem] theorem tsz18 : tsz Try.prog 18 = some 1 := by kernel_rfl
@[go_sem] theorem tby18 : tby Try.prog 18 = some 8 := by kernel_rfl
@[go_sem] theorem tzero18 : tzero Try.prog 18 = some (.agg #[(.pointer none)]) := by kernel_rfl
@[go_sem] theorem tsz19 : tsz Try.prog 19 = some 1 := by kernel_rfl
@[go_sem] theorem tby19 : tby Try.prog 19 = some 8 := by kernel_rfl
@[go_sem] theorem tzero19 : tzero Try.prog 19 = some (.agg #[(.pointer none)]) := by kernel_rfl
@[go_sem] theorem tsz21 : tsz Try.prog 21 = some 1 := by kernel_rfl
@[go_sem] theorem tby21 : tby Try.prog 21 = some 4 := by kernel_rfl
@[go_sem] theorem tzero21 : tzero Try.prog 21 = some (.int .i32 0) := by kernel_rfl
@[go_sem] theorem tsz22 : tsz Try.prog 22 = some 32 := by kernel_rfl
@[go_sem] theorem tby22 : tby Try.prog 22 = some 32 := by kernel_rfl
@[go_sem] theorem tzero22 : tzero Try.prog 22 = some (zArr .u8 32) := by kernel_rfl
@[go_sem] theorem tsz23 : tsz Try.prog 23 = some 16 := by kernel_rfl
@[go_sem] theorem tby23 : tby Try.prog 23 = some 16 := by kernel_rfl
@[go_sem] theorem tzero23 : tzero Try.prog 23 = some (zArr .u8 16) := by kernel_rfl
@[go_sem] theorem tsz25 : tsz Try.prog 25 = some 8 := by kernel_rfl
@[go_sem] theorem tby25 : tby Try.prog 25 = some 8 := by kernel_rfl
@[go_sem] theorem tzero25 : tzero Try.prog 25 = some (zArr .u8 8) := by kernel_rfl
@[go_sem] theorem tsz26 : tsz Try.prog 26 = some 1 := by kernel_rfl
@[go_sem] theorem tby26 : tby Try.prog 26 = some 24 := by kernel_rfl
@[go_sem] theorem tzero26 : tzero Try.prog 26 = some (.slice none 0 0) := by kernel_rfl
@[go_sem] theorem row26 : Row Try.prog 26 := .inl ⟨5, by kernel_rfl⟩
@[go_sem] theorem tsz27 : tsz Try.prog 27 = some 64 := by kernel_rfl
@[go_sem] theorem tby27 : tby Try.prog 27 = some 64 := by kernel_rfl
@[go_sem] theorem tzero27 : tzero Try.prog 27 = some (zArr .u8 64) := by kernel_rfl
@[go_sem] theorem tsz33 : tsz Try.prog 33 = some 24 := by kernel_rfl
@[go_sem] theorem tby33 : tby Try.prog 33 = some 24 := by kernel_rfl
@[go_sem] theorem tzero33 : tzero Try.prog 33 = some (zArr .u8 24) := by kernel_rfl
@[go_sem] theorem tsz34 : tsz Try.prog 34 = some 1 := by kernel_rfl
@[go_sem] theorem tby34 : tby Try.prog 34 = some 8 := by kernel_rfl
@[go_sem] theorem tzero34 : tzero Try.prog 34 = some (.int .i64 0) := by kernel_rfl
@[go_sem] theorem tsz38 : tsz Try.prog 38 = some 2 := by kernel_rfl
@[go_sem] theorem tby38 : tby Try.prog 38 = some 48 := by kernel_rfl
@[go_sem] theorem tzero38 : tzero Try.prog 38 = some (.agg #[(.slice none 0 0), (.slice none 0 0)]) := by kernel_rfl
@[go_sem] theorem tsz42 : tsz Try.prog 42 = some 2 := by kernel_rfl
@[go_sem] theorem tby42 : tby Try.prog 42 = some 2 := by kernel_rfl
@[go_sem] theorem tzero42 : tzero Try.prog 42 = some (zArr .u8 2) := by kernel_rfl
@[go_sem] theorem tsz45 : tsz Try.prog 45 = some 1 := by kernel_rfl
@[go_sem] theorem tby45 : tby Try.prog 45 = some 4 := by kernel_rfl
@[go_sem] theorem tzero45 : tzero Try.prog 45 = some (.int .u32 0) := by kernel_rfl
@[go_sem] theorem tsz46 : tsz Try.prog 46 = some 16 := by kernel_rfl
@[go_sem] theorem tby46 : tby Try.prog 46 = some 64 := by kernel_rfl
@[go_sem] theorem tzero46 : tzero Try.prog 46 = some (zArr .u32 16) := by kernel_rfl
@[go_sem] theorem tsz47 : tsz Try.prog 47 = some 16 := by kernel_rfl
@[go_sem] theorem tby47 : tby Try.prog 47 = some 64 := by kernel_rfl
@[go_sem] theorem tzero47 : tzero Try.prog 47 = some (zArr .u32 16) := by kernel_rfl
@[go_sem] theorem tsz50 : tsz Try.prog 50 = some 16 := by kernel_rfl
@[go_sem] theorem tby50 : tby Try.prog 50 = some 64 := by kernel_rfl
@[go_sem] theorem tzero50 : tzero Try.prog 50 = some (zArr .u32 16) := by kernel_rfl
@[go_sem] theorem tsz51 : tsz Try.prog 51 = some 16 := by kernel_rfl
@[go_sem] theorem tby51 : tby Try.prog 51 = some 64 := by kernel_rfl
@[go_sem] theorem tzero51 : tzero Try.prog 51 = some (zArr .u32 16) := by kernel_rfl
@[go_sem] theorem tsz55 : tsz Try.prog 55 = some 16 := by kernel_rfl
@[go_sem] theorem tby55 : tby Try.prog 55 = some 128 := by kernel_rfl
@[go_sem] theorem tzero55 : tzero Try.prog 55 = some (zArr .i64 16) := by kernel_rfl
@[go_sem] theorem tsz58 : tsz Try.prog 58 = some 1 := by kernel_rfl
@[go_sem] theorem tby58 : tby Try.prog 58 = some 24 := by kernel_rfl
@[go_sem] theorem tzero58 : tzero Try.prog 58 = some (.slice none 0 0) := by kernel_rfl
@[go_sem] theorem row58 : Row Try.prog 58 := .inl ⟨26, by kernel_rfl⟩
@[go_sem] theorem tsz59 : tsz Try.prog 59 = some 1 := by kernel_rfl
@[go_sem] theorem tby59 : tby Try.prog 59 = some 8 := by kernel_rfl
@[go_sem] theorem tzero59 : tzero Try.prog 59 = some (.int .u64 0) := by kernel_rfl
@[go_sem] theorem tsz61 : tsz Try.prog 61 = some 1 := by kernel_rfl
@[go_sem] theorem tby61 : tby Try.prog 61 = some 8 := by kernel_rfl
@[go_sem] theorem tzero61 : tzero Try.prog 61 = some (.pointer none) := by kernel_rfl
@[go_sem] theorem tsz64 : tsz Try.prog 64 = some 4 := by kernel_rfl
@[go_sem] theorem tby64 : tby Try.prog 64 = some 32 := by kernel_rfl
@[go_sem] theorem tzero64 : tzero Try.prog 64 = some (zArr .i64 4) := by kernel_rfl
@[go_sem] theorem tsz65 : tsz Try.prog 65 = some 32 := by kernel_rfl
@[go_sem] theorem tby65 : tby Try.prog 65 = some 256 := by kernel_rfl
@[go_sem] theorem tzero65 : tzero Try.prog 65 = some (zArr .i64 32) := by kernel_rfl
@[go_sem] theorem tsz70 : tsz Try.prog 70 = some 4 := by kernel_rfl
@[go_sem] theorem tby70 : tby Try.prog 70 = some 40 := by kernel_rfl
@[go_sem] theorem tzero70 : tzero Try.prog 70 = some (.agg #[(.pointer none), (.pointer none), (.pointer none), (.string ⟨#[]⟩)]) := by kernel_rfl
@[go_sem] theorem tsz71 : tsz Try.prog 71 = some 4 := by kernel_rfl
@[go_sem] theorem tby71 : tby Try.prog 71 = some 40 := by kernel_rfl
@[go_sem] theorem tzero71 : tzero Try.prog 71 = some (.agg #[(.pointer none), (.pointer none), (.pointer none), (.string ⟨#[]⟩)]) := by kernel_rfl
@[go_sem] theorem tsz72 : tsz Try.prog 72 = some 0 := by kernel_rfl
@[go_sem] theorem tby72 : tby Try.prog 72 = some 0 := by kernel_rfl
@[go_sem] theorem tzero72 : tzero Try.prog 72 = some (.agg #[]) := by kernel_rfl
@[go_sem] theorem tsz73 : tsz Try.prog 73 = some 0 := by kernel_rfl
@[go_sem] theorem tby73 : tby Try.prog 73 = some 0 := by kernel_rfl
@[go_sem] theorem tzero73 : tzero Try.prog 73 = some (.agg #[]) := by kernel_rfl
@[go_sem] theorem tsz74 : tsz Try.prog 74 = some 0 := by kernel_rfl
@[go_sem] theorem tby74 : tby Try.prog 74 = some 0 := by kernel_rfl
@[go_sem] theorem tzero74 : tzero Try.prog 74 = some (.agg #[]) := by kernel_rfl
@[go_sem] theorem tsz76 : tsz Try.prog 76 = some 1 := by kernel_rfl
@[go_sem] theorem tby76 : tby Try.prog 76 = some 1 := by kernel_rfl
@[go_sem] theorem tzero76 : tzero Try.prog 76 = some (.int .u8 0) := by kernel_rfl
@[go_sem] theorem tsz77 : tsz Try.prog 77 = some 1 := by kernel_rfl
@[go_sem] theorem tby77 : tby Try.prog 77 = some 1 := by kernel_rfl
@[go_sem] theorem tzero77 : tzero Try.prog 77 = some (.int .u8 0) := by kernel_rfl
@[go_sem] theorem tsz79 : tsz Try.prog 79 = some 1 := by kernel_rfl
@[go_sem] theorem tby79 : tby Try.prog 79 = some 8 := by kernel_rfl
@[go_sem] theorem tzero79 : tzero Try.prog 79 = some (.pointer none) := by kernel_rfl
@[go_sem] theorem tsz80 : tsz Try.prog 80 = some 1 := by kernel_rfl
@[go_sem] theorem tby80 : tby Try.prog 80 = some 4 := by kernel_rfl
@[go_sem] theorem tzero80 : tzero Try.prog 80 = some (.int .i32 0) := by kernel_rfl
@[go_sem] theorem tsz81 : tsz Try.prog 81 = some 1 := by kernel_rfl
@[go_sem] theorem tby81 : tby Try.prog 81 = some 4 := by kernel_rfl
@[go_sem] theorem tzero81 : tzero Try.prog 81 = some (.int .i32 0) := by kernel_rfl
@[go_sem] theorem tsz82 : tsz Try.prog 82 = some 11 := by kernel_rfl
@[go_sem] theorem tby82 : tby Try.prog 82 = some 48 := by kernel_rfl
@[go_sem] theorem tzero82 : tzero Try.prog 82 = some (.agg #[(.int .u64 0), (.int .u64 0), (.int .u32 0), (.int .u8 0), (.int .u8 0), (.int .u8 0), (.int .u8 0), .nilFunc, (.pointer none), (.int .i32 0), (.int .i32 0)]) := by kernel_rfl
@[go_sem] theorem tsz83 : tsz Try.prog 83 = some 11 := by kernel_rfl
@[go_sem] theorem tby83 : tby Try.prog 83 = some 48 := by kernel_rfl
@[go_sem] theorem tzero83 : tzero Try.prog 83 = some (.agg #[(.int .u64 0), (.int .u64 0), (.int .u32 0), (.int .u8 0), (.int .u8 0), (.int .u8 0), (.int .u8 0), .nilFunc, (.pointer none), (.int .i32 0), (.int .i32 0)]) := by kernel_rfl
@[go_sem] theorem und0 : Try.prog.underlying 0 = some (Go.TypeDesc.tuple #[]) := Try.underlying0
@[go_sem] theorem und1 : Try.prog.underlying 1 = some (Go.TypeDesc.func #[] #[] false) := Try.underlying1
@[go_sem] theorem und2 : Try.prog.underlying 2 = some (Go.TypeDesc.int Go.IntKind.i64) := Try.underlying2
@[go_sem] theorem und3 : Try.prog.underlying 3 = some (Go.TypeDesc.int Go.IntKind.i64) := Try.underlying3
@[go_sem] theorem und4 : Try.prog.underlying 4 = some Go.TypeDesc.bool := Try.underlying4
@[go_sem] theorem und5 : Try.prog.underlying 5 = some (Go.TypeDesc.int Go.IntKind.u8) := Try.underlying5
@[go_sem] theorem und6 : Try.prog.underlying 6 = some (Go.TypeDesc.int Go.IntKind.u8) := Try.underlying6
@[go_sem] theorem und7 : Try.prog.underlying 7 = some (Go.TypeDesc.struct #[{ name := "x", type := 2, offset := 0, embedded := false, tag := "", pkgPath := "runtime", byteOffset := 0 }, { name := "y", type := 3, offset := 1, embedded := false, tag := "", pkgPath := "runtime", byteOffset := 8 }, { name := "signed", type := 4, offset := 2, embedded := false, tag := "", pkgPath := "runtime", byteOffset := 16 }, { name := "code", type := 6, offset := 3, embedded := false, tag := "", pkgPath := "runtime", byteOffset := 17 }]) := Try.underlying7
@[go_sem] theorem und8 : Try.prog.underlying 8 = some (Go.TypeDesc.struct #[{ name := "x", type := 2, offset := 0, embedded := false, tag := "", pkgPath := "runtime", byteOffset := 0 }, { name := "y", type := 3, offset := 1, embedded := false, tag := "", pkgPath := "runtime", byteOffset := 8 }, { name := "signed", type := 4, offset := 2, embedded := false, tag := "", pkgPath := "runtime", byteOffset := 16 }, { name := "code", type := 6, offset := 3, embedded := false, tag := "", pkgPath := "runtime", byteOffset := 17 }]) := Try.underlying8
@[go_sem] theorem und9 : Try.prog.underlying 9 = some Go.TypeDesc.string := Try.underlying9
@[go_sem] theorem und10 : Try.prog.underlying 10 = some Go.TypeDesc.string := Try.underlying10
@[go_sem] theorem und11 : Try.prog.underlying 11 = some Go.TypeDesc.string := Try.underlying11
@[go_sem] theorem und12 : Try.prog.underlying 12 = some (Go.TypeDesc.int Go.IntKind.u64) := Try.underlying12
@[go_sem] theorem und13 : Try.prog.underlying 13 = some (Go.TypeDesc.struct #[{ name := "msg", type := 9, offset := 0, embedded := false, tag := "", pkgPath := "runtime", byteOffset := 0 }, { name := "addr", type := 12, offset := 1, embedded := false, tag := "", pkgPath := "runtime", byteOffset := 16 }]) := Try.underlying13
@[go_sem] theorem und14 : Try.prog.underlying 14 = some (Go.TypeDesc.struct #[{ name := "msg", type := 9, offset := 0, embedded := false, tag := "", pkgPath := "runtime", byteOffset := 0 }, { name := "addr", type := 12, offset := 1, embedded := false, tag := "", pkgPath := "runtime", byteOffset := 16 }]) := Try.underlying14
@[go_sem] theorem und15 : Try.prog.underlying 15 = some (Go.TypeDesc.pointer 71) := Try.underlying15
@[go_sem] theorem und16 : Try.prog.underlying 16 = some (Go.TypeDesc.pointer 74) := Try.underlying16
@[go_sem] theorem und17 : Try.prog.underlying 17 = some (Go.TypeDesc.pointer 83) := Try.underlying17
@[go_sem] theorem und18 : Try.prog.underlying 18 = some (Go.TypeDesc.struct #[{ name := "typ", type := 17, offset := 0, embedded := false, tag := "", pkgPath := "internal/runtime/maps", byteOffset := 0 }]) := Try.underlying18
@[go_sem] theorem und19 : Try.prog.underlying 19 = some (Go.TypeDesc.struct #[{ name := "typ", type := 17, offset := 0, embedded := false, tag := "", pkgPath := "internal/runtime/maps", byteOffset := 0 }]) := Try.underlying19
@[go_sem] theorem und20 : Try.prog.underlying 20 = some (Go.TypeDesc.interface #[]) := Try.underlying20
@[go_sem] theorem und21 : Try.prog.underlying 21 = some (Go.TypeDesc.int Go.IntKind.i32) := Try.underlying21
@[go_sem] theorem und22 : Try.prog.underlying 22 = some (Go.TypeDesc.array 32 5) := Try.underlying22
@[go_sem] theorem und23 : Try.prog.underlying 23 = some (Go.TypeDesc.array 16 5) := Try.underlying23
@[go_sem] theorem und24 : Try.prog.underlying 24 = some (Go.TypeDesc.func #[] #[4] false) := Try.underlying24
@[go_sem] theorem und25 : Try.prog.underlying 25 = some (Go.TypeDesc.array 8 5) := Try.underlying25
@[go_sem] theorem und26 : Try.prog.underlying 26 = some (Go.TypeDesc.slice 5) := Try.underlying26
@[go_sem] theorem und27 : Try.prog.underlying 27 = some (Go.TypeDesc.array 64 5) := Try.underlying27
@[go_sem] theorem und28 : Try.prog.underlying 28 = some (Go.TypeDesc.func #[22, 3, 25] #[27] false) := Try.underlying28
@[go_sem] theorem und29 : Try.prog.underlying 29 = some (Go.TypeDesc.func #[22, 23] #[22] false) := Try.underlying29
@[go_sem] theorem und30 : Try.prog.underlying 30 = some (Go.TypeDesc.func #[26, 3, 26] #[26] false) := Try.underlying30
@[go_sem] theorem und31 : Try.prog.underlying 31 = some (Go.TypeDesc.func #[26, 26] #[26] false) := Try.underlying31
@[go_sem] theorem und32 : Try.prog.underlying 32 = some (Go.TypeDesc.func #[22, 3, 23] #[4] false) := Try.underlying32
@[go_sem] theorem und33 : Try.prog.underlying 33 = some (Go.TypeDesc.array 24 5) := Try.underlying33
@[go_sem] theorem und34 : Try.prog.underlying 34 = some (Go.TypeDesc.int Go.IntKind.i64) := Try.underlying34
@[go_sem] theorem und35 : Try.prog.underlying 35 = some (Go.TypeDesc.tuple #[26, 34]) := Try.underlying35
@[go_sem] theorem und36 : Try.prog.underlying 36 = some (Go.TypeDesc.func #[26, 26, 3] #[26, 34] false) := Try.underlying36
@[go_sem] theorem und37 : Try.prog.underlying 37 = some (Go.TypeDesc.func #[22, 33, 5] #[4] false) := Try.underlying37
@[go_sem] theorem und38 : Try.prog.underlying 38 = some (Go.TypeDesc.array 2 26) := Try.underlying38
@[go_sem] theorem und39 : Try.prog.underlying 39 = some (Go.TypeDesc.func #[26, 26, 58] #[26, 34] true) := Try.underlying39
@[go_sem] theorem und40 : Try.prog.underlying 40 = some (Go.TypeDesc.func #[26, 26, 26] #[26] false) := Try.underlying40
@[go_sem] theorem und41 : Try.prog.underlying 41 = some (Go.TypeDesc.func #[26, 26, 38] #[4] false) := Try.underlying41
@[go_sem] theorem und42 : Try.prog.underlying 42 = some (Go.TypeDesc.array 2 5) := Try.underlying42
@[go_sem] theorem und43 : Try.prog.underlying 43 = some (Go.TypeDesc.func #[22, 33, 42] #[4] false) := Try.underlying43
@[go_sem] theorem und44 : Try.prog.underlying 44 = some (Go.TypeDesc.func #[26, 26, 5] #[4] false) := Try.underlying44
@[go_sem] theorem und45 : Try.prog.underlying 45 = some (Go.TypeDesc.int Go.IntKind.u32) := Try.underlying45
@[go_sem] theorem und46 : Try.prog.underlying 46 = some (Go.TypeDesc.array 16 45) := Try.underlying46
@[go_sem] theorem und47 : Try.prog.underlying 47 = some (Go.TypeDesc.array 16 45) := Try.underlying47
@[go_sem] theorem und48 : Try.prog.underlying 48 = some (Go.TypeDesc.func #[58] #[47] true) := Try.underlying48
@[go_sem] theorem und49 : Try.prog.underlying 49 = some (Go.TypeDesc.func #[3] #[26] false) := Try.underlying49
@[go_sem] theorem und50 : Try.prog.underlying 50 = some (Go.TypeDesc.struct #[{ name := "words", type := 47, offset := 0, embedded := true, tag := "", pkgPath := "escutcheon/chacha", byteOffset := 0 }]) := Try.underlying50
@[go_sem] theorem und51 : Try.prog.underlying 51 = some (Go.TypeDesc.struct #[{ name := "words", type := 47, offset := 0, embedded := true, tag := "", pkgPath := "escutcheon/chacha", byteOffset := 0 }]) := Try.underlying51
@[go_sem] theorem und52 : Try.prog.underlying 52 = some (Go.TypeDesc.func #[] #[51] false) := Try.underlying52
@[go_sem] theorem und53 : Try.prog.underlying 53 = some (Go.TypeDesc.func #[] #[26] false) := Try.underlying53
@[go_sem] theorem und54 : Try.prog.underlying 54 = some (Go.TypeDesc.func #[58] #[26] true) := Try.underlying54
@[go_sem] theorem und55 : Try.prog.underlying 55 = some (Go.TypeDesc.array 16 3) := Try.underlying55
@[go_sem] theorem und56 : Try.prog.underlying 56 = some (Go.TypeDesc.func #[26, 26] #[55] false) := Try.underlying56
@[go_sem] theorem und57 : Try.prog.underlying 57 = some (Go.TypeDesc.func #[55] #[55] false) := Try.underlying57
@[go_sem] theorem und58 : Try.prog.underlying 58 = some (Go.TypeDesc.slice 26) := Try.underlying58
@[go_sem] theorem und59 : Try.prog.underlying 59 = some (Go.TypeDesc.int Go.IntKind.u64) := Try.underlying59
@[go_sem] theorem und60 : Try.prog.underlying 60 = some (Go.TypeDesc.func #[3, 3, 3, 3] #[] false) := Try.underlying60
@[go_sem] theorem und61 : Try.prog.underlying 61 = some (Go.TypeDesc.pointer 47) := Try.underlying61
@[go_sem] theorem und62 : Try.prog.underlying 62 = some (Go.TypeDesc.func #[26, 3] #[26] false) := Try.underlying62
@[go_sem] theorem und63 : Try.prog.underlying 63 = some (Go.TypeDesc.func #[26] #[55] false) := Try.underlying63
@[go_sem] theorem und64 : Try.prog.underlying 64 = some (Go.TypeDesc.array 4 3) := Try.underlying64
@[go_sem] theorem und65 : Try.prog.underlying 65 = some (Go.TypeDesc.array 8 64) := Try.underlying65
@[go_sem] theorem und66 : Try.prog.underlying 66 = some (Go.TypeDesc.func #[55, 3, 3, 3, 3] #[55] false) := Try.underlying66
@[go_sem] theorem und67 : Try.prog.underlying 67 = some (Go.TypeDesc.func #[3, 3] #[3] false) := Try.underlying67
@[go_sem] theorem und68 : Try.prog.underlying 68 = some (Go.TypeDesc.func #[45, 3] #[45] false) := Try.underlying68
@[go_sem] theorem und69 : Try.prog.underlying 69 = some (Go.TypeDesc.func #[] #[9] false) := Try.underlying69
@[go_sem] theorem und70 : Try.prog.underlying 70 = some (Go.TypeDesc.struct #[{ name := "_interface", type := 17, offset := 0, embedded := false, tag := "", pkgPath := "runtime", byteOffset := 0 }, { name := "concrete", type := 17, offset := 1, embedded := false, tag := "", pkgPath := "runtime", byteOffset := 8 }, { name := "asserted", type := 17, offset := 2, embedded := false, tag := "", pkgPath := "runtime", byteOffset := 16 }, { name := "missingMethod", type := 9, offset := 3, embedded := false, tag := "", pkgPath := "runtime", byteOffset := 24 }]) := Try.underlying70
@[go_sem] theorem und71 : Try.prog.underlying 71 = some (Go.TypeDesc.struct #[{ name := "_interface", type := 17, offset := 0, embedded := false, tag := "", pkgPath := "runtime", byteOffset := 0 }, { name := "concrete", type := 17, offset := 1, embedded := false, tag := "", pkgPath := "runtime", byteOffset := 8 }, { name := "asserted", type := 17, offset := 2, embedded := false, tag := "", pkgPath := "runtime", byteOffset := 16 }, { name := "missingMethod", type := 9, offset := 3, embedded := false, tag := "", pkgPath := "runtime", byteOffset := 24 }]) := Try.underlying71
@[go_sem] theorem und72 : Try.prog.underlying 72 = some (Go.TypeDesc.array 0 16) := Try.underlying72
@[go_sem] theorem und73 : Try.prog.underlying 73 = some (Go.TypeDesc.struct #[{ name := "_", type := 72, offset := 0, embedded := false, tag := "", pkgPath := "runtime", byteOffset := 0 }]) := Try.underlying73
@[go_sem] theorem und74 : Try.prog.underlying 74 = some (Go.TypeDesc.struct #[{ name := "_", type := 72, offset := 0, embedded := false, tag := "", pkgPath := "runtime", byteOffset := 0 }]) := Try.underlying74
@[go_sem] theorem und75 : Try.prog.underlying 75 = some (Go.TypeDesc.func #[] #[3] false) := Try.underlying75
@[go_sem] theorem und76 : Try.prog.underlying 76 = some (Go.TypeDesc.int Go.IntKind.u8) := Try.underlying76
@[go_sem] theorem und77 : Try.prog.underlying 77 = some (Go.TypeDesc.int Go.IntKind.u8) := Try.underlying77
@[go_sem] theorem und78 : Try.prog.underlying 78 = some (Go.TypeDesc.func #[84, 84] #[4] false) := Try.underlying78
@[go_sem] theorem und79 : Try.prog.underlying 79 = some (Go.TypeDesc.pointer 5) := Try.underlying79
@[go_sem] theorem und80 : Try.prog.underlying 80 = some (Go.TypeDesc.int Go.IntKind.i32) := Try.underlying80
@[go_sem] theorem und81 : Try.prog.underlying 81 = some (Go.TypeDesc.int Go.IntKind.i32) := Try.underlying81
@[go_sem] theorem und82 : Try.prog.underlying 82 = some (Go.TypeDesc.struct #[{ name := "Size_", type := 12, offset := 0, embedded := false, tag := "", pkgPath := "", byteOffset := 0 }, { name := "PtrBytes", type := 12, offset := 1, embedded := false, tag := "", pkgPath := "", byteOffset := 8 }, { name := "Hash", type := 45, offset := 2, embedded := false, tag := "", pkgPath := "", byteOffset := 16 }, { name := "TFlag", type := 76, offset := 3, embedded := false, tag := "", pkgPath := "", byteOffset := 20 }, { name := "Align_", type := 5, offset := 4, embedded := false, tag := "", pkgPath := "", byteOffset := 21 }, { name := "FieldAlign_", type := 5, offset := 5, embedded := false, tag := "", pkgPath := "", byteOffset := 22 }, { name := "Kind_", type := 77, offset := 6, embedded := false, tag := "", pkgPath := "", byteOffset := 23 }, { name := "Equal", type := 78, offset := 7, embedded := false, tag := "", pkgPath := "", byteOffset := 24 }, { name := "GCData", type := 79, offset := 8, embedded := false, tag := "", pkgPath := "", byteOffset := 32 }, { name := "Str", type := 80, offset := 9, embedded := false, tag := "", pkgPath := "", byteOffset := 40 }, { name := "PtrToThis", type := 81, offset := 10, embedded := false, tag := "", pkgPath := "", byteOffset := 44 }]) := Try.underlying82
@[go_sem] theorem und83 : Try.prog.underlying 83 = some (Go.TypeDesc.struct #[{ name := "Size_", type := 12, offset := 0, embedded := false, tag := "", pkgPath := "", byteOffset := 0 }, { name := "PtrBytes", type := 12, offset := 1, embedded := false, tag := "", pkgPath := "", byteOffset := 8 }, { name := "Hash", type := 45, offset := 2, embedded := false, tag := "", pkgPath := "", byteOffset := 16 }, { name := "TFlag", type := 76, offset := 3, embedded := false, tag := "", pkgPath := "", byteOffset := 20 }, { name := "Align_", type := 5, offset := 4, embedded := false, tag := "", pkgPath := "", byteOffset := 21 }, { name := "FieldAlign_", type := 5, offset := 5, embedded := false, tag := "", pkgPath := "", byteOffset := 22 }, { name := "Kind_", type := 77, offset := 6, embedded := false, tag := "", pkgPath := "", byteOffset := 23 }, { name := "Equal", type := 78, offset := 7, embedded := false, tag := "", pkgPath := "", byteOffset := 24 }, { name := "GCData", type := 79, offset := 8, embedded := false, tag := "", pkgPath := "", byteOffset := 32 }, { name := "Str", type := 80, offset := 9, embedded := false, tag := "", pkgPath := "", byteOffset := 40 }, { name := "PtrToThis", type := 81, offset := 10, embedded := false, tag := "", pkgPath := "", byteOffset := 44 }]) := Try.underlying83
@[go_sem] theorem und84 : Try.prog.underlying 84 = some Go.TypeDesc.unsafePointer := Try.underlying84
end Go.Abs.S
