/- Arguments whose type holds itself: values as trees. Closed facts on the types of this seat's program. Code, as it is looked at; written by wip/leancode.py. Ways that meet again further on. utf8.ValidS -/
import Derived.Test.YtgmchiadphdlhaaGreatDoorJClaimReads2
import Derived.Test.YtgmchiadphdlhaaGreatDoorProg
import Derived.KernelRfl
import GoSem.PinnedTables
import Derived.Laws.Strings
import Derived.WideShapes
import Derived.RangeFuncNested
import Derived.RangeFuncBound
import Derived.RangeFuncCalls
import Derived.RangeFuncLeaves
import Derived.RangeFuncBox
import Derived.Shelf.Abstract
import Derived.Shelf.RegionOpen
import Derived.WalkKit
import Derived.OwnWalkIn
import Derived.TacticsInMore
import Derived.LoopNIn
import Derived.LoopIn
namespace Go.Abs
open Go.Deep
set_option linter.unusedVariables false
set_option linter.unusedSimpArgs false
variable {P : Program} {H : Type} {enc : TypeId × Value → H} {w : World} {spare : Nat → Bool} {held : Bool}
/-- Data read at that fuel. -/
def Rd.At {α : Type} (r : Rd α) (f : Nat) (enc : TypeId × Value → H) (P : Program) (w : World) (spare : Nat → Bool) (held : Bool) (t : TypeId) : Prop :=
  ∀ cs x, DataW.trod enc P w 0 spare held f t cs = some x → ∃ y, r.wf y ∧ cs.length = r.sz ∧ ∀ j, j < r.sz → AR (lawSig w) w ((r.av y).getD j .any) (cs.getD j undef)
theorem Rd.Is.at {α : Type} {r : Rd α} {t : TypeId} (h : r.Is enc P w spare held t) (f : Nat) : r.At f enc P w spare held t := fun cs x hx => by
  obtain ⟨y, h1, h2, h3, _⟩ := h f cs x hx
  exact ⟨y, h1, h2, h3⟩
/-- Fields from a place on, at that fuel. -/
def Rd.FAt {α : Type} (r : Rd α) (n : Nat) (enc : TypeId × Value → H) (P : Program) (w : World) (spare : Nat → Bool) (held : Bool) (fs : List Field) (o : Nat) : Prop :=
  ∀ (cs : List Value) (xs : List (DataW H × List MemPlace)), xs.length = fs.length → (∀ (i : Nat) (f : Field), fs[i]? = some f → DataW.trod enc P w 0 spare held n f.type ((cs.drop f.offset).take (P.cellsOf f.type)) = xs[i]?) →
    ∃ y, r.wf y ∧ ∀ j, j < r.sz → AR (lawSig w) w ((r.av y).getD j .any) (cs.getD (o + j) undef)
/-- Values: a kind, a text, names, values. -/
inductive Val where
  | mk (k : Int) (t : ByteArray) (ns : List ByteArray) (vs : List Val)
instance : Inhabited Val := ⟨.mk 0 ⟨#[]⟩ [] []⟩
theorem Val.ind {p : Val → Prop} (h : ∀ k t ns vs, (∀ v ∈ vs, p v) → p (.mk k t ns vs)) : ∀ v, p v :=
  Val.rec (motive_1 := p) (motive_2 := fun l => ∀ v ∈ l, p v) (fun k t ns vs ih => h k t ns vs ih) (fun _ h => absurd h List.not_mem_nil) (fun v l hv hl => List.forall_mem_cons.2 ⟨hv, hl⟩)
mutual
def Val.cells : Val → List AV
  | .mk k t ns vs => [.v (.int .i64 k), .v (.string t), .vsl ns.length (strs ns) none, .vsl vs.length (cellsL vs) none]
def cellsL : List Val → List AV
  | [] => []
  | v :: l => v.cells ++ cellsL l
end
mutual
def Val.wf : Val → Prop
  | .mk k t ns vs => (Lit.int .i64 k).wf = true ∧ t.size ≤ maxLen ∧ (ns.length ≤ maxLen ∧ ∀ s ∈ ns, s.size ≤ maxLen) ∧ vs.length ≤ maxLen ∧ wfL vs
def wfL : List Val → Prop
  | [] => True
  | v :: l => v.wf ∧ wfL l
end
theorem cellsL_eq : ∀ (l : List Val), cellsL l = l.flatMap Val.cells
  | [] => rfl
  | v :: l => by rw [cellsL, List.flatMap_cons, cellsL_eq l]
theorem Val.cells_length : ∀ v : Val, v.cells.length = 4
  | .mk _ _ _ _ => by rw [Val.cells]; rfl
theorem cellsL_length : ∀ l : List Val, (cellsL l).length = l.length * 4
  | [] => rfl
  | v :: l => by rw [cellsL, List.length_append, Val.cells_length, cellsL_length l, List.length_cons]; omega
theorem cellsL_append : ∀ l m : List Val, cellsL (l ++ m) = cellsL l ++ cellsL m
  | [], m => rfl
  | v :: l, m => by rw [List.cons_append, cellsL, cellsL, cellsL_append l m, List.append_assoc]
theorem cellsL_at : ∀ (l : List Val) (k : Nat), k < l.length → ((cellsL l).drop (k * 4)).take 4 = (l.getD k default).cells
  | v :: l, 0, _ => by
    rw [cellsL, Nat.zero_mul, List.drop_zero, List.take_append_of_le_length (by rw [Val.cells_length]; exact Nat.le_refl _), List.take_of_length_le (by rw [Val.cells_length]; exact Nat.le_refl _)]
    rfl
  | v :: l, k + 1, h => by
    rw [cellsL, show (k + 1) * 4 = v.cells.length + k * 4 from by rw [Val.cells_length]; omega, List.drop_append, show v.cells.length + k * 4 - v.cells.length = k * 4 from by omega, List.drop_of_length_le (by omega), List.nil_append, cellsL_at l k (by simpa using h)]
    rfl
theorem Val.nr : ∀ v : Val, ∀ x ∈ v.cells, NR x := Val.ind fun k t ns vs ih x hx => by
  rw [Val.cells] at hx
  simp only [List.mem_cons, List.not_mem_nil, or_false] at hx
  rcases hx with rfl | rfl | rfl | rfl
  · exact NR.v _
  · exact NR.v _
  · refine NR.vsl fun c hc => ?_
    simp only [strs, List.mem_map] at hc
    obtain ⟨n, _, rfl⟩ := hc
    exact NR.v _
  · refine NR.vsl fun c hc => ?_
    rw [cellsL_eq, List.mem_flatMap] at hc
    obtain ⟨v, h1, h2⟩ := hc
    exact ih v h1 c h2
theorem cellsL_nr (l : List Val) : ∀ x ∈ cellsL l, NR x := fun x hx => by
  rw [cellsL_eq, List.mem_flatMap] at hx
  obtain ⟨v, h1, h2⟩ := hx
  exact v.nr x h2
def Rd.val : Rd Val := ⟨4, Val.cells, Val.wf, fun y _ => Val.cells_length y, fun _ _ => True⟩
end Go.Abs
namespace Go.Abs.S
open Go.Proofs
theorem mixed : Tryz.prog.follows .mixedOrders = true := by kernel_rfl
set_option maxRecDepth 100000
def cells_escutcheon_page_plain : List Value := [.string ⟨#[110, 117, 108, 108]⟩, .string ⟨#[102, 97, 108, 115, 101]⟩, .string ⟨#[116, 114, 117, 101]⟩]
def av_escutcheon_page_plain : AV := .vptr [.v (.string ⟨#[110, 117, 108, 108]⟩), .v (.string ⟨#[102, 97, 108, 115, 101]⟩), .v (.string ⟨#[116, 114, 117, 101]⟩)] 0
def lay_escutcheon_hour_months : List Int := [31, 28, 31, 30, 31, 30, 31, 31, 30, 31, 30, 31]
def cells_escutcheon_hour_months : List Value := lay_escutcheon_hour_months.map (Value.int .i64)
def av_escutcheon_hour_months : AV := .vptr (ints .i64 lay_escutcheon_hour_months) 0
def lay_unicode_utf8_first : List Int := List.map (fun (n : Nat) => (n : Int)) Go.Pinned.utf8FirstZ
def cells_unicode_utf8_first : List Value := lay_unicode_utf8_first.map (Value.int .u8)
def av_unicode_utf8_first : AV := .vptr (ints .u8 lay_unicode_utf8_first) 0
def lay_unicode_utf8_acceptRanges : List Int := [128, 191, 160, 191, 128, 159, 144, 191, 128, 143, 0, 0, 0, 0, 0, 0, 0, 0, 0, 0, 0, 0, 0, 0, 0, 0, 0, 0, 0, 0, 0, 0]
def cells_unicode_utf8_acceptRanges : List Value := lay_unicode_utf8_acceptRanges.map (Value.int .u8)
def av_unicode_utf8_acceptRanges : AV := .vptr (ints .u8 lay_unicode_utf8_acceptRanges) 0
def lay_internal_strconv_uint64pow10 : List Int := [1, 10, 100, 1000, 10000, 100000, 1000000, 10000000, 100000000, 1000000000, 10000000000, 100000000000, 1000000000000, 10000000000000, 100000000000000, 1000000000000000, 10000000000000000, 100000000000000000, 1000000000000000000, 10000000000000000000]
def cells_internal_strconv_uint64pow10 : List Value := lay_internal_strconv_uint64pow10.map (Value.int .u64)
def av_internal_strconv_uint64pow10 : AV := .vptr (ints .u64 lay_internal_strconv_uint64pow10) 0
def lay_math_bits_deBruijn32tab : List Int := [0, 1, 28, 2, 29, 14, 24, 3, 30, 22, 20, 15, 25, 17, 4, 8, 31, 27, 13, 23, 21, 19, 16, 7, 26, 12, 18, 6, 11, 5, 10, 9]
def cells_math_bits_deBruijn32tab : List Value := lay_math_bits_deBruijn32tab.map (Value.int .u8)
def av_math_bits_deBruijn32tab : AV := .vptr (ints .u8 lay_math_bits_deBruijn32tab) 0
def lay_math_bits_deBruijn64tab : List Int := [0, 1, 56, 2, 57, 49, 28, 3, 61, 58, 42, 50, 38, 29, 17, 4, 62, 47, 59, 36, 45, 43, 51, 22, 53, 39, 33, 30, 24, 18, 12, 5, 63, 55, 48, 27, 60, 41, 37, 16, 46, 35, 44, 21, 52, 32, 23, 11, 54, 26, 40, 15, 34, 20, 31, 10, 25, 14, 19, 9, 13, 8, 7, 6]
def cells_math_bits_deBruijn64tab : List Value := lay_math_bits_deBruijn64tab.map (Value.int .u8)
def av_math_bits_deBruijn64tab : AV := .vptr (ints .u8 lay_math_bits_deBruijn64tab) 0
/-- What is known of package-level variables. -/
def glob : Glob := fun g => if g = 0 then av_escutcheon_page_plain else if g = 1 then av_escutcheon_hour_months else if g = 2 then av_unicode_utf8_first else if g = 3 then av_unicode_utf8_acceptRanges else if g = 7 then av_internal_strconv_uint64pow10 else if g = 8 then av_math_bits_deBruijn32tab else if g = 9 then av_math_bits_deBruijn64tab else .any
theorem glob_escutcheon_page_plain : (match av_escutcheon_page_plain with | .vptr xs _ => xs | _ => []) = cells_escutcheon_page_plain.map .v := by
  first | rfl | simp [av_escutcheon_page_plain, cells_escutcheon_page_plain, ints]
@[go_sem] theorem globat0 : glob 0 = .vptr [.v (.string ⟨#[110, 117, 108, 108]⟩), .v (.string ⟨#[102, 97, 108, 115, 101]⟩), .v (.string ⟨#[116, 114, 117, 101]⟩)] 0 := rfl
theorem nr_escutcheon_page_plain : NR av_escutcheon_page_plain := NR.vptr (by
  intro c hc
  have h : c ∈ cells_escutcheon_page_plain.map AV.v := by rw [← glob_escutcheon_page_plain]; exact hc
  obtain ⟨x, _, rfl⟩ := List.mem_map.1 h
  exact NR.v x)
theorem glob_escutcheon_hour_months : (match av_escutcheon_hour_months with | .vptr xs _ => xs | _ => []) = cells_escutcheon_hour_months.map .v := by
  first | rfl | simp [av_escutcheon_hour_months, cells_escutcheon_hour_months, ints]
@[go_sem] theorem globat1 : glob 1 = .vptr (ints .i64 lay_escutcheon_hour_months) 0 := rfl
theorem nr_escutcheon_hour_months : NR av_escutcheon_hour_months := NR.vptr (by
  intro c hc
  have h : c ∈ cells_escutcheon_hour_months.map AV.v := by rw [← glob_escutcheon_hour_months]; exact hc
  obtain ⟨x, _, rfl⟩ := List.mem_map.1 h
  exact NR.v x)
theorem glob_unicode_utf8_first : (match av_unicode_utf8_first with | .vptr xs _ => xs | _ => []) = cells_unicode_utf8_first.map .v := by
  first | rfl | simp [av_unicode_utf8_first, cells_unicode_utf8_first, ints]
@[go_sem] theorem globat2 : glob 2 = .vptr (ints .u8 lay_unicode_utf8_first) 0 := rfl
theorem nr_unicode_utf8_first : NR av_unicode_utf8_first := NR.vptr (by
  intro c hc
  have h : c ∈ cells_unicode_utf8_first.map AV.v := by rw [← glob_unicode_utf8_first]; exact hc
  obtain ⟨x, _, rfl⟩ := List.mem_map.1 h
  exact NR.v x)
theorem glob_unicode_utf8_acceptRanges : (match av_unicode_utf8_acceptRanges with | .vptr xs _ => xs | _ => []) = cells_unicode_utf8_acceptRanges.map .v := by
  first | rfl | simp [av_unicode_utf8_acceptRanges, cells_unicode_utf8_acceptRanges, ints]
@[go_sem] theorem globat3 : glob 3 = .vptr (ints .u8 lay_unicode_utf8_acceptRanges) 0 := rfl
theorem nr_unicode_utf8_acceptRanges : NR av_unicode_utf8_acceptRanges := NR.vptr (by
  intro c hc
  have h : c ∈ cells_unicode_utf8_acceptRanges.map AV.v := by rw [← glob_unicode_utf8_acceptRanges]; exact hc
  obtain ⟨x, _, rfl⟩ := List.mem_map.1 h
  exact NR.v x)
theorem glob_internal_strconv_uint64pow10 : (match av_internal_strconv_uint64pow10 with | .vptr xs _ => xs | _ => []) = cells_internal_strconv_uint64pow10.map .v := by
  first | rfl | simp [av_internal_strconv_uint64pow10, cells_internal_strconv_uint64pow10, ints]
@[go_sem] theorem globat7 : glob 7 = .vptr (ints .u64 lay_internal_strconv_uint64pow10) 0 := rfl
theorem nr_internal_strconv_uint64pow10 : NR av_internal_strconv_uint64pow10 := NR.vptr (by
  intro c hc
  have h : c ∈ cells_internal_strconv_uint64pow10.map AV.v := by rw [← glob_internal_strconv_uint64pow10]; exact hc
  obtain ⟨x, _, rfl⟩ := List.mem_map.1 h
  exact NR.v x)
theorem glob_math_bits_deBruijn32tab : (match av_math_bits_deBruijn32tab with | .vptr xs _ => xs | _ => []) = cells_math_bits_deBruijn32tab.map .v := by
  first | rfl | simp [av_math_bits_deBruijn32tab, cells_math_bits_deBruijn32tab, ints]
@[go_sem] theorem globat8 : glob 8 = .vptr (ints .u8 lay_math_bits_deBruijn32tab) 0 := rfl
theorem nr_math_bits_deBruijn32tab : NR av_math_bits_deBruijn32tab := NR.vptr (by
  intro c hc
  have h : c ∈ cells_math_bits_deBruijn32tab.map AV.v := by rw [← glob_math_bits_deBruijn32tab]; exact hc
  obtain ⟨x, _, rfl⟩ := List.mem_map.1 h
  exact NR.v x)
theorem glob_math_bits_deBruijn64tab : (match av_math_bits_deBruijn64tab with | .vptr xs _ => xs | _ => []) = cells_math_bits_deBruijn64tab.map .v := by
  first | rfl | simp [av_math_bits_deBruijn64tab, cells_math_bits_deBruijn64tab, ints]
@[go_sem] theorem globat9 : glob 9 = .vptr (ints .u8 lay_math_bits_deBruijn64tab) 0 := rfl
theorem nr_math_bits_deBruijn64tab : NR av_math_bits_deBruijn64tab := NR.vptr (by
  intro c hc
  have h : c ∈ cells_math_bits_deBruijn64tab.map AV.v := by rw [← glob_math_bits_deBruijn64tab]; exact hc
  obtain ⟨x, _, rfl⟩ := List.mem_map.1 h
  exact NR.v x)
theorem glob_nr : GN glob := by
  intro g
  unfold glob
  by_cases e0 : g = 0
  · rw [if_pos e0]
    exact nr_escutcheon_page_plain
  rw [if_neg e0]
  by_cases e1 : g = 1
  · rw [if_pos e1]
    exact nr_escutcheon_hour_months
  rw [if_neg e1]
  by_cases e2 : g = 2
  · rw [if_pos e2]
    exact nr_unicode_utf8_first
  rw [if_neg e2]
  by_cases e3 : g = 3
  · rw [if_pos e3]
    exact nr_unicode_utf8_acceptRanges
  rw [if_neg e3]
  by_cases e7 : g = 7
  · rw [if_pos e7]
    exact nr_internal_strconv_uint64pow10
  rw [if_neg e7]
  by_cases e8 : g = 8
  · rw [if_pos e8]
    exact nr_math_bits_deBruijn32tab
  rw [if_neg e8]
  by_cases e9 : g = 9
  · rw [if_pos e9]
    exact nr_math_bits_deBruijn64tab
  rw [if_neg e9]
  exact NR.any
theorem ctx : Ctx Tryz.prog glob := ⟨glob_nr, mixed⟩
/-- A call, out of its body as it is looked at. -/
def LC (n nt : Nat) (lc : LCode) (rs : List ResultVar) : Prop := ∀ {args : List AV} (_ : args.length ≤ nt) {H0 : AHeap} (lo : Nat) (_ : H0.length ≤ lo) {r0 : AV} {H0' : AHeap} (_ : lavc Tryz.prog glob lc (args ++ List.replicate (nt - args.length) (.v undef)) H0 fun e t H => (e = .normal ∨ e = .ret) ∧ aret Tryz.prog t H rs fun r => Fin lo H r r0 H0'), ACall Tryz.prog glob (H0.length == 0) n args H0 r0 H0'
theorem LC.of {imp : FuncId → Bool} {n : FuncId} {fn : Func} {lc : LCode} {rs : List ResultVar} {nt : Nat} (hf : Tryz.prog.funcs[n]? = some fn) (hname : (fn.name == "runtime.NumGoroutine") = false) (hl : fn.body.map (strip Tryz.prog imp) = some lc) (hr : fn.results.toList = rs) (hnt : fn.ntmps = nt) : LC n nt lc rs := by
  intro args hargs H0 lo hlo r0 H0' h
  exact LCall' ctx hf hname hl hr hnt hargs lo hlo h
@[go_sem] theorem tsz2 : tsz Tryz.prog 2 = some 1 := by kernel_rfl
@[go_sem] theorem tby2 : tby Tryz.prog 2 = some 8 := by kernel_rfl
@[go_sem] theorem tzero2 : tzero Tryz.prog 2 = some (.int .i64 0) := by kernel_rfl
@[go_sem] theorem tsz3 : tsz Tryz.prog 3 = some 1 := by kernel_rfl
@[go_sem] theorem tby3 : tby Tryz.prog 3 = some 8 := by kernel_rfl
@[go_sem] theorem tzero3 : tzero Tryz.prog 3 = some (.int .i64 0) := by kernel_rfl
@[go_sem] theorem tsz4 : tsz Tryz.prog 4 = some 1 := by kernel_rfl
@[go_sem] theorem tby4 : tby Tryz.prog 4 = some 1 := by kernel_rfl
@[go_sem] theorem tzero4 : tzero Tryz.prog 4 = some (.bool false) := by kernel_rfl
@[go_sem] theorem tsz5 : tsz Tryz.prog 5 = some 1 := by kernel_rfl
@[go_sem] theorem tby5 : tby Tryz.prog 5 = some 1 := by kernel_rfl
@[go_sem] theorem tzero5 : tzero Tryz.prog 5 = some (.int .u8 0) := by kernel_rfl
@[go_sem] theorem tsz6 : tsz Tryz.prog 6 = some 1 := by kernel_rfl
@[go_sem] theorem tby6 : tby Tryz.prog 6 = some 1 := by kernel_rfl
@[go_sem] theorem tzero6 : tzero Tryz.prog 6 = some (.int .u8 0) := by kernel_rfl
@[go_sem] theorem tsz7 : tsz Tryz.prog 7 = some 4 := by kernel_rfl
@[go_sem] theorem tby7 : tby Tryz.prog 7 = some 24 := by kernel_rfl
@[go_sem] theorem tzero7 : tzero Tryz.prog 7 = some (.agg #[(.int .i64 0), (.int .i64 0), (.bool false), (.int .u8 0)]) := by kernel_rfl
@[go_sem] theorem tsz8 : tsz Tryz.prog 8 = some 4 := by kernel_rfl
@[go_sem] theorem tby8 : tby Tryz.prog 8 = some 24 := by kernel_rfl
@[go_sem] theorem tzero8 : tzero Tryz.prog 8 = some (.agg #[(.int .i64 0), (.int .i64 0), (.bool false), (.int .u8 0)]) := by kernel_rfl
@[go_sem] theorem tsz9 : tsz Tryz.prog 9 = some 1 := by kernel_rfl
@[go_sem] theorem tby9 : tby Tryz.prog 9 = some 16 := by kernel_rfl
@[go_sem] theorem tzero9 : tzero Tryz.prog 9 = some (.string ⟨#[]⟩) := by kernel_rfl
@[go_sem] theorem row9 : Row Tryz.prog 9 := .inr (by kernel_rfl)
@[go_sem] theorem tsz10 : tsz Tryz.prog 10 = some 1 := by kernel_rfl
@[go_sem] theorem tby10 : tby Tryz.prog 10 = some 16 := by kernel_rfl
@[go_sem] theorem tzero10 : tzero Tryz.prog 10 = some (.string ⟨#[]⟩) := by kernel_rfl
@[go_sem] theorem row10 : Row Tryz.prog 10 := .inr (by kernel_rfl)
@[go_sem] theorem tsz11 : tsz Tryz.prog 11 = some 1 := by kernel_rfl
@[go_sem] theorem tby11 : tby Tryz.prog 11 = some 16 := by kernel_rfl
@[go_sem] theorem tzero11 : tzero Tryz.prog 11 = some (.string ⟨#[]⟩) := by kernel_rfl
@[go_sem] theorem row11 : Row Tryz.prog 11 := .inr (by kernel_rfl)
@[go_sem] theorem tsz12 : tsz Tryz.prog 12 = some 1 := by kernel_rfl
@[go_sem] theorem tby12 : tby Tryz.prog 12 = some 8 := by kernel_rfl
@[go_sem] theorem tzero12 : tzero Tryz.prog 12 = some (.int .u64 0) := by kernel_rfl
@[go_sem] theorem tsz13 : tsz Tryz.prog 13 = some 2 := by kernel_rfl
@[go_sem] theorem tby13 : tby Tryz.prog 13 = some 24 := by kernel_rfl
@[go_sem] theorem tzero13 : tzero Tryz.prog 13 = some (.agg #[(.string ⟨#[]⟩), (.int .u64 0)]) := by kernel_rfl
@[go_sem] theorem tsz14 : tsz Tryz.prog 14 = some 2 := by kernel_rfl
@[go_sem] theorem tby14 : tby Tryz.prog 14 = some 24 := by kernel_rfl
@[go_sem] theorem tzero14 : tzero Tryz.prog 14 = some (.agg #[(.string ⟨#[]⟩), (.int .u64 0)]) := by kernel_rfl
@[go_sem] theorem tsz15 : tsz Tryz.prog 15 = some 1 := by kernel_rfl
@[go_sem] theorem tby15 : tby Tryz.prog 15 = some 8 := by kernel_rfl
@[go_sem] theorem tzero15 : tzero Tryz.prog 15 = some (.pointer none) := by kernel_rfl
@[go_sem] theorem tsz16 : tsz Tryz.prog 16 = some 1 := by kernel_rfl
@[go_sem] theorem tby16 : tby Tryz.prog 16 = some 8 := by kernel_rfl
@[go_sem] theorem tzero16 : tzero Tryz.prog 16 = some (.pointer none) := by kernel_rfl
@[go_sem] theorem tsz17 : tsz Tryz.prog 17 = some 1 := by kernel_rfl
@[go_sem] theorem tby17 : tby Tryz.prog 17 = some 8 := by kernel_rfl
@[go_sem] theorem tzero17 : tzero Tryz.prog 17 = some (.pointer none) := by kernel_rfl
@[go_sem] theorem tsz18 : tsz Tryz.prog 18 = some 1 := by kernel_rfl
@[go_sem] theorem tby18 : tby Tryz.prog 18 = some 8 := by kernel_rfl
@[go_sem] theorem tzero18 : tzero Tryz.prog 18 = some (.agg #[(.pointer none)]) := by kernel_rfl
@[go_sem] theorem tsz19 : tsz Tryz.prog 19 = some 1 := by kernel_rfl
@[go_sem] theorem tby19 : tby Tryz.prog 19 = some 8 := by kernel_rfl
@[go_sem] theorem tzero19 : tzero Tryz.prog 19 = some (.agg #[(.pointer none)]) := by kernel_rfl
@[go_sem] theorem tsz21 : tsz Tryz.prog 21 = some 1 := by kernel_rfl
@[go_sem] theorem tby21 : tby Tryz.prog 21 = some 4 := by kernel_rfl
@[go_sem] theorem tzero21 : tzero Tryz.prog 21 = some (.int .i32 0) := by kernel_rfl
@[go_sem] theorem tsz22 : tsz Tryz.prog 22 = some 1 := by kernel_rfl
@[go_sem] theorem tby22 : tby Tryz.prog 22 = some 24 := by kernel_rfl
@[go_sem] theorem tzero22 : tzero Tryz.prog 22 = some (.slice none 0 0) := by kernel_rfl
@[go_sem] theorem row22 : Row Tryz.prog 22 := .inl ⟨5, by kernel_rfl⟩
@[go_sem] theorem tsz23 : tsz Tryz.prog 23 = some 1 := by kernel_rfl
@[go_sem] theorem tby23 : tby Tryz.prog 23 = some 24 := by kernel_rfl
@[go_sem] theorem tzero23 : tzero Tryz.prog 23 = some (.slice none 0 0) := by kernel_rfl
@[go_sem] theorem row23 : Row Tryz.prog 23 := .inl ⟨45, by kernel_rfl⟩
@[go_sem] theorem tsz25 : tsz Tryz.prog 25 = some 1 := by kernel_rfl
@[go_sem] theorem tby25 : tby Tryz.prog 25 = some 8 := by kernel_rfl
@[go_sem] theorem tzero25 : tzero Tryz.prog 25 = some (.int .i64 0) := by kernel_rfl
@[go_sem] theorem tsz26 : tsz Tryz.prog 26 = some 1 := by kernel_rfl
@[go_sem] theorem tby26 : tby Tryz.prog 26 = some 24 := by kernel_rfl
@[go_sem] theorem tzero26 : tzero Tryz.prog 26 = some (.slice none 0 0) := by kernel_rfl
@[go_sem] theorem row26 : Row Tryz.prog 26 := .inl ⟨9, by kernel_rfl⟩
@[go_sem] theorem tsz27 : tsz Tryz.prog 27 = some 1 := by kernel_rfl
@[go_sem] theorem tby27 : tby Tryz.prog 27 = some 24 := by kernel_rfl
@[go_sem] theorem tzero27 : tzero Tryz.prog 27 = some (.slice none 0 0) := by kernel_rfl
@[go_sem] theorem row27 : Row Tryz.prog 27 := .inl ⟨29, by kernel_rfl⟩
@[go_sem] theorem tsz28 : tsz Tryz.prog 28 = some 4 := by kernel_rfl
@[go_sem] theorem tby28 : tby Tryz.prog 28 = some 72 := by kernel_rfl
@[go_sem] theorem tzero28 : tzero Tryz.prog 28 = some (.agg #[(.int .i64 0), (.string ⟨#[]⟩), (.slice none 0 0), (.slice none 0 0)]) := by kernel_rfl
@[go_sem] theorem tsz29 : tsz Tryz.prog 29 = some 4 := by kernel_rfl
@[go_sem] theorem tby29 : tby Tryz.prog 29 = some 72 := by kernel_rfl
@[go_sem] theorem tzero29 : tzero Tryz.prog 29 = some (.agg #[(.int .i64 0), (.string ⟨#[]⟩), (.slice none 0 0), (.slice none 0 0)]) := by kernel_rfl
@[go_sem] theorem tsz30 : tsz Tryz.prog 30 = some 1 := by kernel_rfl
@[go_sem] theorem tby30 : tby Tryz.prog 30 = some 8 := by kernel_rfl
@[go_sem] theorem tzero30 : tzero Tryz.prog 30 = some (.int .i64 0) := by kernel_rfl
@[go_sem] theorem tsz39 : tsz Tryz.prog 39 = some 1 := by kernel_rfl
@[go_sem] theorem tby39 : tby Tryz.prog 39 = some 24 := by kernel_rfl
@[go_sem] theorem tzero39 : tzero Tryz.prog 39 = some (.slice none 0 0) := by kernel_rfl
@[go_sem] theorem row39 : Row Tryz.prog 39 := .inl ⟨41, by kernel_rfl⟩
@[go_sem] theorem tsz40 : tsz Tryz.prog 40 = some 4 := by kernel_rfl
@[go_sem] theorem tby40 : tby Tryz.prog 40 = some 72 := by kernel_rfl
@[go_sem] theorem tzero40 : tzero Tryz.prog 40 = some (.agg #[(.int .i64 0), (.string ⟨#[]⟩), (.slice none 0 0), (.slice none 0 0)]) := by kernel_rfl
@[go_sem] theorem tsz41 : tsz Tryz.prog 41 = some 4 := by kernel_rfl
@[go_sem] theorem tby41 : tby Tryz.prog 41 = some 72 := by kernel_rfl
@[go_sem] theorem tzero41 : tzero Tryz.prog 41 = some (.agg #[(.int .i64 0), (.string ⟨#[]⟩), (.slice none 0 0), (.slice none 0 0)]) := by kernel_rfl
@[go_sem] theorem tsz43 : tsz Tryz.prog 43 = some 1 := by kernel_rfl
@[go_sem] theorem tby43 : tby Tryz.prog 43 = some 8 := by kernel_rfl
@[go_sem] theorem tzero43 : tzero Tryz.prog 43 = some (.int .i64 0) := by kernel_rfl
@[go_sem] theorem tsz44 : tsz Tryz.prog 44 = some 3 := by kernel_rfl
@[go_sem] theorem tby44 : tby Tryz.prog 44 = some 40 := by kernel_rfl
@[go_sem] theorem tzero44 : tzero Tryz.prog 44 = some (.agg #[(.int .i64 0), (.string ⟨#[]⟩), (.string ⟨#[]⟩)]) := by kernel_rfl
@[go_sem] theorem tsz45 : tsz Tryz.prog 45 = some 3 := by kernel_rfl
@[go_sem] theorem tby45 : tby Tryz.prog 45 = some 40 := by kernel_rfl
@[go_sem] theorem tzero45 : tzero Tryz.prog 45 = some (.agg #[(.int .i64 0), (.string ⟨#[]⟩), (.string ⟨#[]⟩)]) := by kernel_rfl
@[go_sem] theorem tsz50 : tsz Tryz.prog 50 = some 1 := by kernel_rfl
@[go_sem] theorem tby50 : tby Tryz.prog 50 = some 8 := by kernel_rfl
@[go_sem] theorem tzero50 : tzero Tryz.prog 50 = some (.pointer none) := by kernel_rfl
@[go_sem] theorem tsz51 : tsz Tryz.prog 51 = some 2 := by kernel_rfl
@[go_sem] theorem tby51 : tby Tryz.prog 51 = some 24 := by kernel_rfl
@[go_sem] theorem tzero51 : tzero Tryz.prog 51 = some (.agg #[(.string ⟨#[]⟩), (.int .i64 0)]) := by kernel_rfl
@[go_sem] theorem tsz52 : tsz Tryz.prog 52 = some 2 := by kernel_rfl
@[go_sem] theorem tby52 : tby Tryz.prog 52 = some 24 := by kernel_rfl
@[go_sem] theorem tzero52 : tzero Tryz.prog 52 = some (.agg #[(.string ⟨#[]⟩), (.int .i64 0)]) := by kernel_rfl
@[go_sem] theorem tsz55 : tsz Tryz.prog 55 = some 5 := by kernel_rfl
@[go_sem] theorem tby55 : tby Tryz.prog 55 = some 80 := by kernel_rfl
@[go_sem] theorem tzero55 : tzero Tryz.prog 55 = some (.agg #[(.int .i64 0), (.string ⟨#[]⟩), (.slice none 0 0), (.slice none 0 0), (.int .i64 0)]) := by kernel_rfl
@[go_sem] theorem tsz56 : tsz Tryz.prog 56 = some 5 := by kernel_rfl
@[go_sem] theorem tby56 : tby Tryz.prog 56 = some 80 := by kernel_rfl
@[go_sem] theorem tzero56 : tzero Tryz.prog 56 = some (.agg #[(.int .i64 0), (.string ⟨#[]⟩), (.slice none 0 0), (.slice none 0 0), (.int .i64 0)]) := by kernel_rfl
@[go_sem] theorem tsz70 : tsz Tryz.prog 70 = some 3 := by kernel_rfl
@[go_sem] theorem tby70 : tby Tryz.prog 70 = some 48 := by kernel_rfl
@[go_sem] theorem tzero70 : tzero Tryz.prog 70 = some (.agg #[(.string ⟨#[]⟩), (.string ⟨#[]⟩), (.string ⟨#[]⟩)]) := by kernel_rfl
@[go_sem] theorem tsz84 : tsz Tryz.prog 84 = some 3 := by kernel_rfl
@[go_sem] theorem tby84 : tby Tryz.prog 84 = some 24 := by kernel_rfl
@[go_sem] theorem tzero84 : tzero Tryz.prog 84 = some (zArr .i64 3) := by kernel_rfl
@[go_sem] theorem tsz85 : tsz Tryz.prog 85 = some 3 := by kernel_rfl
@[go_sem] theorem tby85 : tby Tryz.prog 85 = some 24 := by kernel_rfl
@[go_sem] theorem tzero85 : tzero Tryz.prog 85 = some (zArr .i64 3) := by kernel_rfl
@[go_sem] theorem tsz86 : tsz Tryz.prog 86 = some 6 := by kernel_rfl
@[go_sem] theorem tby86 : tby Tryz.prog 86 = some 48 := by kernel_rfl
@[go_sem] theorem tzero86 : tzero Tryz.prog 86 = some (zArr .i64 6) := by kernel_rfl
@[go_sem] theorem tsz87 : tsz Tryz.prog 87 = some 6 := by kernel_rfl
@[go_sem] theorem tby87 : tby Tryz.prog 87 = some 48 := by kernel_rfl
@[go_sem] theorem tzero87 : tzero Tryz.prog 87 = some (zArr .i64 6) := by kernel_rfl
@[go_sem] theorem tsz89 : tsz Tryz.prog 89 = some 1 := by kernel_rfl
@[go_sem] theorem tby89 : tby Tryz.prog 89 = some 8 := by kernel_rfl
@[go_sem] theorem tzero89 : tzero Tryz.prog 89 = some (.pointer none) := by kernel_rfl
@[go_sem] theorem tsz90 : tsz Tryz.prog 90 = some 2 := by kernel_rfl
@[go_sem] theorem tby90 : tby Tryz.prog 90 = some 32 := by kernel_rfl
@[go_sem] theorem tzero90 : tzero Tryz.prog 90 = some (.agg #[(.pointer none), (.slice none 0 0)]) := by kernel_rfl
@[go_sem] theorem tsz91 : tsz Tryz.prog 91 = some 2 := by kernel_rfl
@[go_sem] theorem tby91 : tby Tryz.prog 91 = some 32 := by kernel_rfl
@[go_sem] theorem tzero91 : tzero Tryz.prog 91 = some (.agg #[(.pointer none), (.slice none 0 0)]) := by kernel_rfl
@[go_sem] theorem tsz97 : tsz Tryz.prog 97 = some 5 := by kernel_rfl
@[go_sem] theorem tby97 : tby Tryz.prog 97 = some 40 := by kernel_rfl
@[go_sem] theorem tzero97 : tzero Tryz.prog 97 = some (zArr .i64 5) := by kernel_rfl
@[go_sem] theorem tsz101 : tsz Tryz.prog 101 = some 1 := by kernel_rfl
@[go_sem] theorem tby101 : tby Tryz.prog 101 = some 24 := by kernel_rfl
@[go_sem] theorem tzero101 : tzero Tryz.prog 101 = some (.slice none 0 0) := by kernel_rfl
@[go_sem] theorem row101 : Row Tryz.prog 101 := .inl ⟨26, by kernel_rfl⟩
@[go_sem] theorem tsz111 : tsz Tryz.prog 111 = some 256 := by kernel_rfl
@[go_sem] theorem tby111 : tby Tryz.prog 111 = some 256 := by kernel_rfl
@[go_sem] theorem tzero111 : tzero Tryz.prog 111 = some (.agg #[(.bool false), (.bool false), (.bool false), (.bool false), (.bool false), (.bool false), (.bool false), (.bool false), (.bool false), (.bool false), (.bool false), (.bool false), (.bool false), (.bool false), (.bool false), (.bool false), (.bool false), (.bool false), (.bool false), (.bool false), (.bool false), (.bool false), (.bool false), (.bool false), (.bool false), (.bool false), (.bool false), (.bool false), (.bool false), (.bool false), (.bool false), (.bool false), (.bool false), (.bool false), (.bool false), (.bool false), (.bool false), (.bool false), (.bool false), (.bool false), (.bool false), (.bool false), (.bool false), (.bool false), (.bool false), (.bool false), (.bool false), (.bool false), (.bool false), (.bool false), (.bool false), (.bool false), (.bool false), (.bool false), (.bool false), (.bool false), (.bool false), (.bool false), (.bool false), (.bool false), (.bool false), (.bool false), (.bool false), (.bool false), (.bool false), (.bool false), (.bool false), (.bool false), (.bool false), (.bool false), (.bool false), (.bool false), (.bool false), (.bool false), (.bool false), (.bool false), (.bool false), (.bool false), (.bool false), (.bool false), (.bool false), (.bool false), (.bool false), (.bool false), (.bool false), (.bool false), (.bool false), (.bool false), (.bool false), (.bool false), (.bool false), (.bool false), (.bool false), (.bool false), (.bool false), (.bool false), (.bool false), (.bool false), (.bool false), (.bool false), (.bool false), (.bool false), (.bool false), (.bool false), (.bool false), (.bool false), (.bool false), (.bool false), (.bool false), (.bool false), (.bool false), (.bool false), (.bool false), (.bool false), (.bool false), (.bool false), (.bool false), (.bool false), (.bool false), (.bool false), (.bool false), (.bool false), (.bool false), (.bool false), (.bool false), (.bool false), (.bool false), (.bool false), (.bool false), (.bool false), (.bool false), (.bool false), (.bool false), (.bool false), (.bool false), (.bool false), (.bool false), (.bool false), (.bool false), (.bool false), (.bool false), (.bool false), (.bool false), (.bool false), (.bool false), (.bool false), (.bool false), (.bool false), (.bool false), (.bool false), (.bool false), (.bool false), (.bool false), (.bool false), (.bool false), (.bool false), (.bool false), (.bool false), (.bool false), (.bool false), (.bool false), (.bool false), (.bool false), (.bool false), (.bool false), (.bool false), (.bool false), (.bool false), (.bool false), (.bool false), (.bool false), (.bool false), (.bool false), (.bool false), (.bool false), (.bool false), (.bool false), (.bool false), (.bool false), (.bool false), (.bool false), (.bool false), (.bool false), (.bool false), (.bool false), (.bool false), (.bool false), (.bool false), (.bool false), (.bool false), (.bool false), (.bool false), (.bool false), (.bool false), (.bool false), (.bool false), (.bool false), (.bool false), (.bool false), (.bool false), (.bool false), (.bool false), (.bool false), (.bool false), (.bool false), (.bool false), (.bool false), (.bool false), (.bool false), (.bool false), (.bool false), (.bool false), (.bool false), (.bool false), (.bool false), (.bool false), (.bool false), (.bool false), (.bool false), (.bool false), (.bool false), (.bool false), (.bool false), (.bool false), (.bool false), (.bool false), (.bool false), (.bool false), (.bool false), (.bool false), (.bool false), (.bool false), (.bool false), (.bool false), (.bool false), (.bool false), (.bool false), (.bool false), (.bool false), (.bool false), (.bool false), (.bool false), (.bool false), (.bool false), (.bool false), (.bool false), (.bool false), (.bool false), (.bool false), (.bool false), (.bool false), (.bool false), (.bool false), (.bool false), (.bool false), (.bool false)]) := by kernel_rfl
@[go_sem] theorem tsz112 : tsz Tryz.prog 112 = some 256 := by kernel_rfl
@[go_sem] theorem tby112 : tby Tryz.prog 112 = some 256 := by kernel_rfl
@[go_sem] theorem tzero112 : tzero Tryz.prog 112 = some (.agg #[(.bool false), (.bool false), (.bool false), (.bool false), (.bool false), (.bool false), (.bool false), (.bool false), (.bool false), (.bool false), (.bool false), (.bool false), (.bool false), (.bool false), (.bool false), (.bool false), (.bool false), (.bool false), (.bool false), (.bool false), (.bool false), (.bool false), (.bool false), (.bool false), (.bool false), (.bool false), (.bool false), (.bool false), (.bool false), (.bool false), (.bool false), (.bool false), (.bool false), (.bool false), (.bool false), (.bool false), (.bool false), (.bool false), (.bool false), (.bool false), (.bool false), (.bool false), (.bool false), (.bool false), (.bool false), (.bool false), (.bool false), (.bool false), (.bool false), (.bool false), (.bool false), (.bool false), (.bool false), (.bool false), (.bool false), (.bool false), (.bool false), (.bool false), (.bool false), (.bool false), (.bool false), (.bool false), (.bool false), (.bool false), (.bool false), (.bool false), (.bool false), (.bool false), (.bool false), (.bool false), (.bool false), (.bool false), (.bool false), (.bool false), (.bool false), (.bool false), (.bool false), (.bool false), (.bool false), (.bool false), (.bool false), (.bool false), (.bool false), (.bool false), (.bool false), (.bool false), (.bool false), (.bool false), (.bool false), (.bool false), (.bool false), (.bool false), (.bool false), (.bool false), (.bool false), (.bool false), (.bool false), (.bool false), (.bool false), (.bool false), (.bool false), (.bool false), (.bool false), (.bool false), (.bool false), (.bool false), (.bool false), (.bool false), (.bool false), (.bool false), (.bool false), (.bool false), (.bool false), (.bool false), (.bool false), (.bool false), (.bool false), (.bool false), (.bool false), (.bool false), (.bool false), (.bool false), (.bool false), (.bool false), (.bool false), (.bool false), (.bool false), (.bool false), (.bool false), (.bool false), (.bool false), (.bool false), (.bool false), (.bool false), (.bool false), (.bool false), (.bool false), (.bool false), (.bool false), (.bool false), (.bool false), (.bool false), (.bool false), (.bool false), (.bool false), (.bool false), (.bool false), (.bool false), (.bool false), (.bool false), (.bool false), (.bool false), (.bool false), (.bool false), (.bool false), (.bool false), (.bool false), (.bool false), (.bool false), (.bool false), (.bool false), (.bool false), (.bool false), (.bool false), (.bool false), (.bool false), (.bool false), (.bool false), (.bool false), (.bool false), (.bool false), (.bool false), (.bool false), (.bool false), (.bool false), (.bool false), (.bool false), (.bool false), (.bool false), (.bool false), (.bool false), (.bool false), (.bool false), (.bool false), (.bool false), (.bool false), (.bool false), (.bool false), (.bool false), (.bool false), (.bool false), (.bool false), (.bool false), (.bool false), (.bool false), (.bool false), (.bool false), (.bool false), (.bool false), (.bool false), (.bool false), (.bool false), (.bool false), (.bool false), (.bool false), (.bool false), (.bool false), (.bool false), (.bool false), (.bool false), (.bool false), (.bool false), (.bool false), (.bool false), (.bool false), (.bool false), (.bool false), (.bool false), (.bool false), (.bool false), (.bool false), (.bool false), (.bool false), (.bool false), (.bool false), (.bool false), (.bool false), (.bool false), (.bool false), (.bool false), (.bool false), (.bool false), (.bool false), (.bool false), (.bool false), (.bool false), (.bool false), (.bool false), (.bool false), (.bool false), (.bool false), (.bool false), (.bool false), (.bool false), (.bool false), (.bool false), (.bool false), (.bool false), (.bool false), (.bool false), (.bool false), (.bool false), (.bool false), (.bool false), (.bool false), (.bool false)]) := by kernel_rfl
@[go_sem] theorem tsz116 : tsz Tryz.prog 116 = some 1 := by kernel_rfl
@[go_sem] theorem tby116 : tby Tryz.prog 116 = some 8 := by kernel_rfl
@[go_sem] theorem tzero116 : tzero Tryz.prog 116 = some (.pointer none) := by kernel_rfl
@[go_sem] theorem tsz125 : tsz Tryz.prog 125 = some 1 := by kernel_rfl
@[go_sem] theorem tby125 : tby Tryz.prog 125 = some 8 := by kernel_rfl
@[go_sem] theorem tzero125 : tzero Tryz.prog 125 = some (.pointer none) := by kernel_rfl
@[go_sem] theorem tsz128 : tsz Tryz.prog 128 = some 1 := by kernel_rfl
@[go_sem] theorem tby128 : tby Tryz.prog 128 = some 8 := by kernel_rfl
@[go_sem] theorem tzero128 : tzero Tryz.prog 128 = some (.int .u64 0) := by kernel_rfl
@[go_sem] theorem tsz135 : tsz Tryz.prog 135 = some 12 := by kernel_rfl
@[go_sem] theorem tby135 : tby Tryz.prog 135 = some 96 := by kernel_rfl
@[go_sem] theorem tzero135 : tzero Tryz.prog 135 = some (zArr .i64 12) := by kernel_rfl
@[go_sem] theorem tsz138 : tsz Tryz.prog 138 = some 1 := by kernel_rfl
@[go_sem] theorem tby138 : tby Tryz.prog 138 = some 8 := by kernel_rfl
@[go_sem] theorem tzero138 : tzero Tryz.prog 138 = some (.int .u64 0) := by kernel_rfl
@[go_sem] theorem tsz142 : tsz Tryz.prog 142 = some 256 := by kernel_rfl
@[go_sem] theorem tby142 : tby Tryz.prog 142 = some 256 := by kernel_rfl
@[go_sem] theorem tzero142 : tzero Tryz.prog 142 = some (zArr .u8 256) := by kernel_rfl
@[go_sem] theorem tsz143 : tsz Tryz.prog 143 = some 2 := by kernel_rfl
@[go_sem] theorem tby143 : tby Tryz.prog 143 = some 2 := by kernel_rfl
@[go_sem] theorem tzero143 : tzero Tryz.prog 143 = some (zArr .u8 2) := by kernel_rfl
@[go_sem] theorem tsz144 : tsz Tryz.prog 144 = some 2 := by kernel_rfl
@[go_sem] theorem tby144 : tby Tryz.prog 144 = some 2 := by kernel_rfl
@[go_sem] theorem tzero144 : tzero Tryz.prog 144 = some (zArr .u8 2) := by kernel_rfl
@[go_sem] theorem tsz145 : tsz Tryz.prog 145 = some 32 := by kernel_rfl
@[go_sem] theorem tby145 : tby Tryz.prog 145 = some 32 := by kernel_rfl
@[go_sem] theorem tzero145 : tzero Tryz.prog 145 = some (zArr .u8 32) := by kernel_rfl
@[go_sem] theorem tsz151 : tsz Tryz.prog 151 = some 1 := by kernel_rfl
@[go_sem] theorem tby151 : tby Tryz.prog 151 = some 4 := by kernel_rfl
@[go_sem] theorem tzero151 : tzero Tryz.prog 151 = some (.int .u32 0) := by kernel_rfl
@[go_sem] theorem tsz156 : tsz Tryz.prog 156 = some 1 := by kernel_rfl
@[go_sem] theorem tby156 : tby Tryz.prog 156 = some 8 := by kernel_rfl
@[go_sem] theorem tzero156 : tzero Tryz.prog 156 = some (.int .i64 0) := by kernel_rfl
@[go_sem] theorem tsz158 : tsz Tryz.prog 158 = some 1 := by kernel_rfl
@[go_sem] theorem tby158 : tby Tryz.prog 158 = some 8 := by kernel_rfl
@[go_sem] theorem tzero158 : tzero Tryz.prog 158 = some (.pointer none) := by kernel_rfl
@[go_sem] theorem tsz162 : tsz Tryz.prog 162 = some 24 := by kernel_rfl
@[go_sem] theorem tby162 : tby Tryz.prog 162 = some 24 := by kernel_rfl
@[go_sem] theorem tzero162 : tzero Tryz.prog 162 = some (zArr .u8 24) := by kernel_rfl
@[go_sem] theorem tsz169 : tsz Tryz.prog 169 = some 3 := by kernel_rfl
@[go_sem] theorem tby169 : tby Tryz.prog 169 = some 48 := by kernel_rfl
@[go_sem] theorem tzero169 : tzero Tryz.prog 169 = some (.agg #[(.string ⟨#[]⟩), (.string ⟨#[]⟩), .nilIface]) := by kernel_rfl
@[go_sem] theorem tsz170 : tsz Tryz.prog 170 = some 3 := by kernel_rfl
@[go_sem] theorem tby170 : tby Tryz.prog 170 = some 48 := by kernel_rfl
@[go_sem] theorem tzero170 : tzero Tryz.prog 170 = some (.agg #[(.string ⟨#[]⟩), (.string ⟨#[]⟩), .nilIface]) := by kernel_rfl
@[go_sem] theorem tsz175 : tsz Tryz.prog 175 = some 20 := by kernel_rfl
@[go_sem] theorem tby175 : tby Tryz.prog 175 = some 160 := by kernel_rfl
@[go_sem] theorem tzero175 : tzero Tryz.prog 175 = some (zArr .u64 20) := by kernel_rfl
@[go_sem] theorem tsz176 : tsz Tryz.prog 176 = some 65 := by kernel_rfl
@[go_sem] theorem tby176 : tby Tryz.prog 176 = some 65 := by kernel_rfl
@[go_sem] theorem tzero176 : tzero Tryz.prog 176 = some (zArr .u8 65) := by kernel_rfl
@[go_sem] theorem tsz178 : tsz Tryz.prog 178 = some 1 := by kernel_rfl
@[go_sem] theorem tby178 : tby Tryz.prog 178 = some 8 := by kernel_rfl
@[go_sem] theorem tzero178 : tzero Tryz.prog 178 = some (.pointer none) := by kernel_rfl
@[go_sem] theorem tsz179 : tsz Tryz.prog 179 = some 1 := by kernel_rfl
@[go_sem] theorem tby179 : tby Tryz.prog 179 = some 16 := by kernel_rfl
@[go_sem] theorem tzero179 : tzero Tryz.prog 179 = some (.agg #[(.string ⟨#[]⟩)]) := by kernel_rfl
@[go_sem] theorem tsz180 : tsz Tryz.prog 180 = some 1 := by kernel_rfl
@[go_sem] theorem tby180 : tby Tryz.prog 180 = some 16 := by kernel_rfl
@[go_sem] theorem tzero180 : tzero Tryz.prog 180 = some (.agg #[(.string ⟨#[]⟩)]) := by kernel_rfl
@[go_sem] theorem tsz182 : tsz Tryz.prog 182 = some 32 := by kernel_rfl
@[go_sem] theorem tby182 : tby Tryz.prog 182 = some 32 := by kernel_rfl
@[go_sem] theorem tzero182 : tzero Tryz.prog 182 = some (zArr .u8 32) := by kernel_rfl
@[go_sem] theorem tsz183 : tsz Tryz.prog 183 = some 64 := by kernel_rfl
@[go_sem] theorem tby183 : tby Tryz.prog 183 = some 64 := by kernel_rfl
@[go_sem] theorem tzero183 : tzero Tryz.prog 183 = some (zArr .u8 64) := by kernel_rfl
@[go_sem] theorem tsz184 : tsz Tryz.prog 184 = some 4 := by kernel_rfl
@[go_sem] theorem tby184 : tby Tryz.prog 184 = some 40 := by kernel_rfl
@[go_sem] theorem tzero184 : tzero Tryz.prog 184 = some (.agg #[(.pointer none), (.pointer none), (.pointer none), (.string ⟨#[]⟩)]) := by kernel_rfl
@[go_sem] theorem tsz185 : tsz Tryz.prog 185 = some 4 := by kernel_rfl
@[go_sem] theorem tby185 : tby Tryz.prog 185 = some 40 := by kernel_rfl
@[go_sem] theorem tzero185 : tzero Tryz.prog 185 = some (.agg #[(.pointer none), (.pointer none), (.pointer none), (.string ⟨#[]⟩)]) := by kernel_rfl
@[go_sem] theorem tsz186 : tsz Tryz.prog 186 = some 0 := by kernel_rfl
@[go_sem] theorem tby186 : tby Tryz.prog 186 = some 0 := by kernel_rfl
@[go_sem] theorem tzero186 : tzero Tryz.prog 186 = some (.agg #[]) := by kernel_rfl
@[go_sem] theorem tsz187 : tsz Tryz.prog 187 = some 0 := by kernel_rfl
@[go_sem] theorem tby187 : tby Tryz.prog 187 = some 0 := by kernel_rfl
@[go_sem] theorem tzero187 : tzero Tryz.prog 187 = some (.agg #[]) := by kernel_rfl
@[go_sem] theorem tsz188 : tsz Tryz.prog 188 = some 0 := by kernel_rfl
@[go_sem] theorem tby188 : tby Tryz.prog 188 = some 0 := by kernel_rfl
@[go_sem] theorem tzero188 : tzero Tryz.prog 188 = some (.agg #[]) := by kernel_rfl
@[go_sem] theorem tsz189 : tsz Tryz.prog 189 = some 1 := by kernel_rfl
@[go_sem] theorem tby189 : tby Tryz.prog 189 = some 1 := by kernel_rfl
@[go_sem] theorem tzero189 : tzero Tryz.prog 189 = some (.int .u8 0) := by kernel_rfl
@[go_sem] theorem tsz190 : tsz Tryz.prog 190 = some 1 := by kernel_rfl
@[go_sem] theorem tby190 : tby Tryz.prog 190 = some 1 := by kernel_rfl
@[go_sem] theorem tzero190 : tzero Tryz.prog 190 = some (.int .u8 0) := by kernel_rfl
@[go_sem] theorem tsz192 : tsz Tryz.prog 192 = some 1 := by kernel_rfl
@[go_sem] theorem tby192 : tby Tryz.prog 192 = some 4 := by kernel_rfl
@[go_sem] theorem tzero192 : tzero Tryz.prog 192 = some (.int .i32 0) := by kernel_rfl
@[go_sem] theorem tsz193 : tsz Tryz.prog 193 = some 1 := by kernel_rfl
@[go_sem] theorem tby193 : tby Tryz.prog 193 = some 4 := by kernel_rfl
@[go_sem] theorem tzero193 : tzero Tryz.prog 193 = some (.int .i32 0) := by kernel_rfl
@[go_sem] theorem tsz194 : tsz Tryz.prog 194 = some 11 := by kernel_rfl
@[go_sem] theorem tby194 : tby Tryz.prog 194 = some 48 := by kernel_rfl
@[go_sem] theorem tzero194 : tzero Tryz.prog 194 = some (.agg #[(.int .u64 0), (.int .u64 0), (.int .u32 0), (.int .u8 0), (.int .u8 0), (.int .u8 0), (.int .u8 0), .nilFunc, (.pointer none), (.int .i32 0), (.int .i32 0)]) := by kernel_rfl
@[go_sem] theorem tsz195 : tsz Tryz.prog 195 = some 11 := by kernel_rfl
@[go_sem] theorem tby195 : tby Tryz.prog 195 = some 48 := by kernel_rfl
@[go_sem] theorem tzero195 : tzero Tryz.prog 195 = some (.agg #[(.int .u64 0), (.int .u64 0), (.int .u32 0), (.int .u8 0), (.int .u8 0), (.int .u8 0), (.int .u8 0), .nilFunc, (.pointer none), (.int .i32 0), (.int .i32 0)]) := by kernel_rfl
@[go_sem] theorem und0 : Tryz.prog.underlying 0 = some (Go.TypeDesc.tuple #[]) := Tryz.underlying0
@[go_sem] theorem und1 : Tryz.prog.underlying 1 = some (Go.TypeDesc.func #[] #[] false) := Tryz.underlying1
@[go_sem] theorem und2 : Tryz.prog.underlying 2 = some (Go.TypeDesc.int Go.IntKind.i64) := Tryz.underlying2
@[go_sem] theorem und3 : Tryz.prog.underlying 3 = some (Go.TypeDesc.int Go.IntKind.i64) := Tryz.underlying3
@[go_sem] theorem und4 : Tryz.prog.underlying 4 = some Go.TypeDesc.bool := Tryz.underlying4
@[go_sem] theorem und5 : Tryz.prog.underlying 5 = some (Go.TypeDesc.int Go.IntKind.u8) := Tryz.underlying5
@[go_sem] theorem und6 : Tryz.prog.underlying 6 = some (Go.TypeDesc.int Go.IntKind.u8) := Tryz.underlying6
@[go_sem] theorem und7 : Tryz.prog.underlying 7 = some (Go.TypeDesc.struct #[{ name := "x", type := 2, offset := 0, embedded := false, tag := "", pkgPath := "runtime", byteOffset := 0 }, { name := "y", type := 3, offset := 1, embedded := false, tag := "", pkgPath := "runtime", byteOffset := 8 }, { name := "signed", type := 4, offset := 2, embedded := false, tag := "", pkgPath := "runtime", byteOffset := 16 }, { name := "code", type := 6, offset := 3, embedded := false, tag := "", pkgPath := "runtime", byteOffset := 17 }]) := Tryz.underlying7
@[go_sem] theorem und8 : Tryz.prog.underlying 8 = some (Go.TypeDesc.struct #[{ name := "x", type := 2, offset := 0, embedded := false, tag := "", pkgPath := "runtime", byteOffset := 0 }, { name := "y", type := 3, offset := 1, embedded := false, tag := "", pkgPath := "runtime", byteOffset := 8 }, { name := "signed", type := 4, offset := 2, embedded := false, tag := "", pkgPath := "runtime", byteOffset := 16 }, { name := "code", type := 6, offset := 3, embedded := false, tag := "", pkgPath := "runtime", byteOffset := 17 }]) := Tryz.underlying8
@[go_sem] theorem und9 : Tryz.prog.underlying 9 = some Go.TypeDesc.string := Tryz.underlying9
@[go_sem] theorem und10 : Tryz.prog.underlying 10 = some Go.TypeDesc.string := Tryz.underlying10
@[go_sem] theorem und11 : Tryz.prog.underlying 11 = some Go.TypeDesc.string := Tryz.underlying11
@[go_sem] theorem und12 : Tryz.prog.underlying 12 = some (Go.TypeDesc.int Go.IntKind.u64) := Tryz.underlying12
@[go_sem] theorem und13 : Tryz.prog.underlying 13 = some (Go.TypeDesc.struct #[{ name := "msg", type := 9, offset := 0, embedded := false, tag := "", pkgPath := "runtime", byteOffset := 0 }, { name := "addr", type := 12, offset := 1, embedded := false, tag := "", pkgPath := "runtime", byteOffset := 16 }]) := Tryz.underlying13
@[go_sem] theorem und14 : Tryz.prog.underlying 14 = some (Go.TypeDesc.struct #[{ name := "msg", type := 9, offset := 0, embedded := false, tag := "", pkgPath := "runtime", byteOffset := 0 }, { name := "addr", type := 12, offset := 1, embedded := false, tag := "", pkgPath := "runtime", byteOffset := 16 }]) := Tryz.underlying14
@[go_sem] theorem und15 : Tryz.prog.underlying 15 = some (Go.TypeDesc.pointer 185) := Tryz.underlying15
@[go_sem] theorem und16 : Tryz.prog.underlying 16 = some (Go.TypeDesc.pointer 188) := Tryz.underlying16
@[go_sem] theorem und17 : Tryz.prog.underlying 17 = some (Go.TypeDesc.pointer 195) := Tryz.underlying17
@[go_sem] theorem und18 : Tryz.prog.underlying 18 = some (Go.TypeDesc.struct #[{ name := "typ", type := 17, offset := 0, embedded := false, tag := "", pkgPath := "internal/runtime/maps", byteOffset := 0 }]) := Tryz.underlying18
@[go_sem] theorem und19 : Tryz.prog.underlying 19 = some (Go.TypeDesc.struct #[{ name := "typ", type := 17, offset := 0, embedded := false, tag := "", pkgPath := "internal/runtime/maps", byteOffset := 0 }]) := Tryz.underlying19
@[go_sem] theorem und20 : Tryz.prog.underlying 20 = some (Go.TypeDesc.interface #[]) := Tryz.underlying20
@[go_sem] theorem und21 : Tryz.prog.underlying 21 = some (Go.TypeDesc.int Go.IntKind.i32) := Tryz.underlying21
@[go_sem] theorem und22 : Tryz.prog.underlying 22 = some (Go.TypeDesc.slice 5) := Tryz.underlying22
@[go_sem] theorem und23 : Tryz.prog.underlying 23 = some (Go.TypeDesc.slice 45) := Tryz.underlying23
@[go_sem] theorem und24 : Tryz.prog.underlying 24 = some (Go.TypeDesc.func #[] #[4] false) := Tryz.underlying24
@[go_sem] theorem und25 : Tryz.prog.underlying 25 = some (Go.TypeDesc.int Go.IntKind.i64) := Tryz.underlying25
@[go_sem] theorem und26 : Tryz.prog.underlying 26 = some (Go.TypeDesc.slice 9) := Tryz.underlying26
@[go_sem] theorem und27 : Tryz.prog.underlying 27 = some (Go.TypeDesc.slice 29) := Tryz.underlying27
@[go_sem] theorem und28 : Tryz.prog.underlying 28 = some (Go.TypeDesc.struct #[{ name := "Kind", type := 25, offset := 0, embedded := false, tag := "", pkgPath := "", byteOffset := 0 }, { name := "Text", type := 9, offset := 1, embedded := false, tag := "", pkgPath := "", byteOffset := 8 }, { name := "Names", type := 26, offset := 2, embedded := false, tag := "", pkgPath := "", byteOffset := 24 }, { name := "Values", type := 27, offset := 3, embedded := false, tag := "", pkgPath := "", byteOffset := 48 }]) := Tryz.underlying28
@[go_sem] theorem und29 : Tryz.prog.underlying 29 = some (Go.TypeDesc.struct #[{ name := "Kind", type := 25, offset := 0, embedded := false, tag := "", pkgPath := "", byteOffset := 0 }, { name := "Text", type := 9, offset := 1, embedded := false, tag := "", pkgPath := "", byteOffset := 8 }, { name := "Names", type := 26, offset := 2, embedded := false, tag := "", pkgPath := "", byteOffset := 24 }, { name := "Values", type := 27, offset := 3, embedded := false, tag := "", pkgPath := "", byteOffset := 48 }]) := Tryz.underlying29
@[go_sem] theorem und30 : Tryz.prog.underlying 30 = some (Go.TypeDesc.int Go.IntKind.i64) := Tryz.underlying30
@[go_sem] theorem und31 : Tryz.prog.underlying 31 = some (Go.TypeDesc.tuple #[29, 30]) := Tryz.underlying31
@[go_sem] theorem und32 : Tryz.prog.underlying 32 = some (Go.TypeDesc.func #[22, 3, 23] #[29, 30] true) := Tryz.underlying32
@[go_sem] theorem und33 : Tryz.prog.underlying 33 = some (Go.TypeDesc.func #[9] #[29, 30] false) := Tryz.underlying33
@[go_sem] theorem und34 : Tryz.prog.underlying 34 = some (Go.TypeDesc.func #[29, 3, 23] #[30] true) := Tryz.underlying34
@[go_sem] theorem und35 : Tryz.prog.underlying 35 = some (Go.TypeDesc.func #[29, 29] #[4] false) := Tryz.underlying35
@[go_sem] theorem und36 : Tryz.prog.underlying 36 = some (Go.TypeDesc.func #[22, 3, 23] #[4] false) := Tryz.underlying36
@[go_sem] theorem und37 : Tryz.prog.underlying 37 = some (Go.TypeDesc.func #[29] #[4] false) := Tryz.underlying37
@[go_sem] theorem und38 : Tryz.prog.underlying 38 = some (Go.TypeDesc.func #[41, 3] #[3] false) := Tryz.underlying38
@[go_sem] theorem und39 : Tryz.prog.underlying 39 = some (Go.TypeDesc.slice 41) := Tryz.underlying39
@[go_sem] theorem und40 : Tryz.prog.underlying 40 = some (Go.TypeDesc.struct #[{ name := "Kind", type := 3, offset := 0, embedded := false, tag := "", pkgPath := "", byteOffset := 0 }, { name := "Text", type := 9, offset := 1, embedded := false, tag := "", pkgPath := "", byteOffset := 8 }, { name := "Names", type := 26, offset := 2, embedded := false, tag := "", pkgPath := "", byteOffset := 24 }, { name := "Values", type := 39, offset := 3, embedded := false, tag := "", pkgPath := "", byteOffset := 48 }]) := Tryz.underlying40
@[go_sem] theorem und41 : Tryz.prog.underlying 41 = some (Go.TypeDesc.struct #[{ name := "Kind", type := 3, offset := 0, embedded := false, tag := "", pkgPath := "", byteOffset := 0 }, { name := "Text", type := 9, offset := 1, embedded := false, tag := "", pkgPath := "", byteOffset := 8 }, { name := "Names", type := 26, offset := 2, embedded := false, tag := "", pkgPath := "", byteOffset := 24 }, { name := "Values", type := 39, offset := 3, embedded := false, tag := "", pkgPath := "", byteOffset := 48 }]) := Tryz.underlying41
@[go_sem] theorem und42 : Tryz.prog.underlying 42 = some (Go.TypeDesc.func #[29] #[41] false) := Tryz.underlying42
@[go_sem] theorem und43 : Tryz.prog.underlying 43 = some (Go.TypeDesc.int Go.IntKind.i64) := Tryz.underlying43
@[go_sem] theorem und44 : Tryz.prog.underlying 44 = some (Go.TypeDesc.struct #[{ name := "Ask", type := 43, offset := 0, embedded := false, tag := "", pkgPath := "", byteOffset := 0 }, { name := "Name", type := 9, offset := 1, embedded := false, tag := "", pkgPath := "", byteOffset := 8 }, { name := "Want", type := 9, offset := 2, embedded := false, tag := "", pkgPath := "", byteOffset := 24 }]) := Tryz.underlying44
@[go_sem] theorem und45 : Tryz.prog.underlying 45 = some (Go.TypeDesc.struct #[{ name := "Ask", type := 43, offset := 0, embedded := false, tag := "", pkgPath := "", byteOffset := 0 }, { name := "Name", type := 9, offset := 1, embedded := false, tag := "", pkgPath := "", byteOffset := 8 }, { name := "Want", type := 9, offset := 2, embedded := false, tag := "", pkgPath := "", byteOffset := 24 }]) := Tryz.underlying45
@[go_sem] theorem und46 : Tryz.prog.underlying 46 = some (Go.TypeDesc.func #[29, 3, 45] #[30] false) := Tryz.underlying46
@[go_sem] theorem und47 : Tryz.prog.underlying 47 = some (Go.TypeDesc.func #[29, 3, 23] #[4] false) := Tryz.underlying47
@[go_sem] theorem und48 : Tryz.prog.underlying 48 = some (Go.TypeDesc.func #[9, 9, 3, 3, 26] #[29, 30] true) := Tryz.underlying48
@[go_sem] theorem und49 : Tryz.prog.underlying 49 = some (Go.TypeDesc.func #[9, 9] #[23] false) := Tryz.underlying49
@[go_sem] theorem und50 : Tryz.prog.underlying 50 = some (Go.TypeDesc.pointer 52) := Tryz.underlying50
@[go_sem] theorem und51 : Tryz.prog.underlying 51 = some (Go.TypeDesc.struct #[{ name := "left", type := 9, offset := 0, embedded := false, tag := "", pkgPath := "escutcheon/page", byteOffset := 0 }, { name := "fail", type := 30, offset := 1, embedded := false, tag := "", pkgPath := "escutcheon/page", byteOffset := 16 }]) := Tryz.underlying51
@[go_sem] theorem und52 : Tryz.prog.underlying 52 = some (Go.TypeDesc.struct #[{ name := "left", type := 9, offset := 0, embedded := false, tag := "", pkgPath := "escutcheon/page", byteOffset := 0 }, { name := "fail", type := 30, offset := 1, embedded := false, tag := "", pkgPath := "escutcheon/page", byteOffset := 16 }]) := Tryz.underlying52
@[go_sem] theorem und53 : Tryz.prog.underlying 53 = some (Go.TypeDesc.func #[3] #[29] false) := Tryz.underlying53
@[go_sem] theorem und54 : Tryz.prog.underlying 54 = some (Go.TypeDesc.func #[30] #[] false) := Tryz.underlying54
@[go_sem] theorem und55 : Tryz.prog.underlying 55 = some (Go.TypeDesc.struct #[{ name := "Value", type := 29, offset := 0, embedded := true, tag := "", pkgPath := "", byteOffset := 0 }, { name := "now", type := 3, offset := 4, embedded := false, tag := "", pkgPath := "escutcheon/claim", byteOffset := 72 }]) := Tryz.underlying55
@[go_sem] theorem und56 : Tryz.prog.underlying 56 = some (Go.TypeDesc.struct #[{ name := "Value", type := 29, offset := 0, embedded := true, tag := "", pkgPath := "", byteOffset := 0 }, { name := "now", type := 3, offset := 4, embedded := false, tag := "", pkgPath := "escutcheon/claim", byteOffset := 72 }]) := Tryz.underlying56
@[go_sem] theorem und57 : Tryz.prog.underlying 57 = some (Go.TypeDesc.func #[29] #[30] false) := Tryz.underlying57
@[go_sem] theorem und58 : Tryz.prog.underlying 58 = some (Go.TypeDesc.func #[45] #[30] false) := Tryz.underlying58
@[go_sem] theorem und59 : Tryz.prog.underlying 59 = some (Go.TypeDesc.func #[26, 26] #[4] false) := Tryz.underlying59
@[go_sem] theorem und60 : Tryz.prog.underlying 60 = some (Go.TypeDesc.func #[27, 27, 35] #[4] false) := Tryz.underlying60
@[go_sem] theorem und61 : Tryz.prog.underlying 61 = some (Go.TypeDesc.func #[9, 3] #[3] false) := Tryz.underlying61
@[go_sem] theorem und62 : Tryz.prog.underlying 62 = some (Go.TypeDesc.func #[9] #[4] false) := Tryz.underlying62
@[go_sem] theorem und63 : Tryz.prog.underlying 63 = some (Go.TypeDesc.func #[26, 9] #[4] false) := Tryz.underlying63
@[go_sem] theorem und64 : Tryz.prog.underlying 64 = some (Go.TypeDesc.tuple #[3, 3]) := Tryz.underlying64
@[go_sem] theorem und65 : Tryz.prog.underlying 65 = some (Go.TypeDesc.func #[9] #[3, 3] false) := Tryz.underlying65
@[go_sem] theorem und66 : Tryz.prog.underlying 66 = some (Go.TypeDesc.tuple #[9, 30]) := Tryz.underlying66
@[go_sem] theorem und67 : Tryz.prog.underlying 67 = some (Go.TypeDesc.func #[3] #[9, 30] false) := Tryz.underlying67
@[go_sem] theorem und68 : Tryz.prog.underlying 68 = some (Go.TypeDesc.func #[26] #[29] true) := Tryz.underlying68
@[go_sem] theorem und69 : Tryz.prog.underlying 69 = some (Go.TypeDesc.func #[101] #[26] true) := Tryz.underlying69
@[go_sem] theorem und70 : Tryz.prog.underlying 70 = some (Go.TypeDesc.array 3 9) := Tryz.underlying70
@[go_sem] theorem und71 : Tryz.prog.underlying 71 = some (Go.TypeDesc.func #[] #[9] false) := Tryz.underlying71
@[go_sem] theorem und72 : Tryz.prog.underlying 72 = some (Go.TypeDesc.func #[29, 9, 3] #[29] false) := Tryz.underlying72
@[go_sem] theorem und73 : Tryz.prog.underlying 73 = some (Go.TypeDesc.func #[9] #[3] false) := Tryz.underlying73
@[go_sem] theorem und74 : Tryz.prog.underlying 74 = some (Go.TypeDesc.func #[9, 9] #[9] false) := Tryz.underlying74
@[go_sem] theorem und75 : Tryz.prog.underlying 75 = some (Go.TypeDesc.func #[3] #[30] false) := Tryz.underlying75
@[go_sem] theorem und76 : Tryz.prog.underlying 76 = some (Go.TypeDesc.tuple #[9, 4]) := Tryz.underlying76
@[go_sem] theorem und77 : Tryz.prog.underlying 77 = some (Go.TypeDesc.func #[9] #[9, 4] false) := Tryz.underlying77
@[go_sem] theorem und78 : Tryz.prog.underlying 78 = some (Go.TypeDesc.func #[9, 3] #[30] false) := Tryz.underlying78
@[go_sem] theorem und79 : Tryz.prog.underlying 79 = some (Go.TypeDesc.func #[9, 3, 9] #[4] false) := Tryz.underlying79
@[go_sem] theorem und80 : Tryz.prog.underlying 80 = some (Go.TypeDesc.func #[3, 3] #[3] false) := Tryz.underlying80
@[go_sem] theorem und81 : Tryz.prog.underlying 81 = some (Go.TypeDesc.func #[3, 3, 3, 3, 3, 3] #[3] false) := Tryz.underlying81
@[go_sem] theorem und82 : Tryz.prog.underlying 82 = some (Go.TypeDesc.func #[] #[3] false) := Tryz.underlying82
@[go_sem] theorem und83 : Tryz.prog.underlying 83 = some (Go.TypeDesc.func #[3] #[4] false) := Tryz.underlying83
@[go_sem] theorem und84 : Tryz.prog.underlying 84 = some (Go.TypeDesc.struct #[{ name := "year", type := 3, offset := 0, embedded := false, tag := "", pkgPath := "escutcheon/hour", byteOffset := 0 }, { name := "month", type := 3, offset := 1, embedded := false, tag := "", pkgPath := "escutcheon/hour", byteOffset := 8 }, { name := "day", type := 3, offset := 2, embedded := false, tag := "", pkgPath := "escutcheon/hour", byteOffset := 16 }]) := Tryz.underlying84
@[go_sem] theorem und85 : Tryz.prog.underlying 85 = some (Go.TypeDesc.struct #[{ name := "year", type := 3, offset := 0, embedded := false, tag := "", pkgPath := "escutcheon/hour", byteOffset := 0 }, { name := "month", type := 3, offset := 1, embedded := false, tag := "", pkgPath := "escutcheon/hour", byteOffset := 8 }, { name := "day", type := 3, offset := 2, embedded := false, tag := "", pkgPath := "escutcheon/hour", byteOffset := 16 }]) := Tryz.underlying85
@[go_sem] theorem und86 : Tryz.prog.underlying 86 = some (Go.TypeDesc.struct #[{ name := "date", type := 85, offset := 0, embedded := true, tag := "", pkgPath := "escutcheon/hour", byteOffset := 0 }, { name := "hour", type := 3, offset := 3, embedded := false, tag := "", pkgPath := "escutcheon/hour", byteOffset := 24 }, { name := "minute", type := 3, offset := 4, embedded := false, tag := "", pkgPath := "escutcheon/hour", byteOffset := 32 }, { name := "second", type := 3, offset := 5, embedded := false, tag := "", pkgPath := "escutcheon/hour", byteOffset := 40 }]) := Tryz.underlying86
@[go_sem] theorem und87 : Tryz.prog.underlying 87 = some (Go.TypeDesc.struct #[{ name := "date", type := 85, offset := 0, embedded := true, tag := "", pkgPath := "escutcheon/hour", byteOffset := 0 }, { name := "hour", type := 3, offset := 3, embedded := false, tag := "", pkgPath := "escutcheon/hour", byteOffset := 24 }, { name := "minute", type := 3, offset := 4, embedded := false, tag := "", pkgPath := "escutcheon/hour", byteOffset := 32 }, { name := "second", type := 3, offset := 5, embedded := false, tag := "", pkgPath := "escutcheon/hour", byteOffset := 40 }]) := Tryz.underlying87
@[go_sem] theorem und88 : Tryz.prog.underlying 88 = some (Go.TypeDesc.func #[3] #[87] false) := Tryz.underlying88
@[go_sem] theorem und89 : Tryz.prog.underlying 89 = some (Go.TypeDesc.pointer 91) := Tryz.underlying89
@[go_sem] theorem und90 : Tryz.prog.underlying 90 = some (Go.TypeDesc.struct #[{ name := "addr", type := 89, offset := 0, embedded := false, tag := "", pkgPath := "strings", byteOffset := 0 }, { name := "buf", type := 22, offset := 1, embedded := false, tag := "", pkgPath := "strings", byteOffset := 8 }]) := Tryz.underlying90
@[go_sem] theorem und91 : Tryz.prog.underlying 91 = some (Go.TypeDesc.struct #[{ name := "addr", type := 89, offset := 0, embedded := false, tag := "", pkgPath := "strings", byteOffset := 0 }, { name := "buf", type := 22, offset := 1, embedded := false, tag := "", pkgPath := "strings", byteOffset := 8 }]) := Tryz.underlying91
@[go_sem] theorem und92 : Tryz.prog.underlying 92 = some (Go.TypeDesc.interface #[("Error", 71)]) := Tryz.underlying92
@[go_sem] theorem und93 : Tryz.prog.underlying 93 = some (Go.TypeDesc.interface #[("Error", 71)]) := Tryz.underlying93
@[go_sem] theorem und94 : Tryz.prog.underlying 94 = some (Go.TypeDesc.tuple #[3, 93]) := Tryz.underlying94
@[go_sem] theorem und95 : Tryz.prog.underlying 95 = some (Go.TypeDesc.func #[9] #[3, 93] false) := Tryz.underlying95
@[go_sem] theorem und96 : Tryz.prog.underlying 96 = some (Go.TypeDesc.func #[3, 3] #[9] false) := Tryz.underlying96
@[go_sem] theorem und97 : Tryz.prog.underlying 97 = some (Go.TypeDesc.array 5 3) := Tryz.underlying97
@[go_sem] theorem und98 : Tryz.prog.underlying 98 = some (Go.TypeDesc.func #[117] #[] false) := Tryz.underlying98
@[go_sem] theorem und99 : Tryz.prog.underlying 99 = some (Go.TypeDesc.func #[117] #[] false) := Tryz.underlying99
@[go_sem] theorem und100 : Tryz.prog.underlying 100 = some (Go.TypeDesc.func #[26, 3] #[99] false) := Tryz.underlying100
@[go_sem] theorem und101 : Tryz.prog.underlying 101 = some (Go.TypeDesc.slice 26) := Tryz.underlying101
@[go_sem] theorem und102 : Tryz.prog.underlying 102 = some (Go.TypeDesc.func #[26, 3] #[26] false) := Tryz.underlying102
@[go_sem] theorem und103 : Tryz.prog.underlying 103 = some (Go.TypeDesc.func #[9, 9] #[9, 4] false) := Tryz.underlying103
@[go_sem] theorem und104 : Tryz.prog.underlying 104 = some (Go.TypeDesc.func #[9, 105] #[3] false) := Tryz.underlying104
@[go_sem] theorem und105 : Tryz.prog.underlying 105 = some (Go.TypeDesc.func #[21] #[4] false) := Tryz.underlying105
@[go_sem] theorem und106 : Tryz.prog.underlying 106 = some (Go.TypeDesc.tuple #[21, 3]) := Tryz.underlying106
@[go_sem] theorem und107 : Tryz.prog.underlying 107 = some (Go.TypeDesc.func #[9] #[21, 3] false) := Tryz.underlying107
@[go_sem] theorem und108 : Tryz.prog.underlying 108 = some (Go.TypeDesc.func #[26] #[9] false) := Tryz.underlying108
@[go_sem] theorem und109 : Tryz.prog.underlying 109 = some (Go.TypeDesc.func #[9, 9] #[4] false) := Tryz.underlying109
@[go_sem] theorem und110 : Tryz.prog.underlying 110 = some (Go.TypeDesc.func #[9, 5] #[9] false) := Tryz.underlying110
@[go_sem] theorem und111 : Tryz.prog.underlying 111 = some (Go.TypeDesc.array 256 4) := Tryz.underlying111
@[go_sem] theorem und112 : Tryz.prog.underlying 112 = some (Go.TypeDesc.array 256 4) := Tryz.underlying112
@[go_sem] theorem und113 : Tryz.prog.underlying 113 = some (Go.TypeDesc.tuple #[112, 4]) := Tryz.underlying113
@[go_sem] theorem und114 : Tryz.prog.underlying 114 = some (Go.TypeDesc.func #[9] #[112, 4] false) := Tryz.underlying114
@[go_sem] theorem und115 : Tryz.prog.underlying 115 = some (Go.TypeDesc.func #[9, 116] #[9] false) := Tryz.underlying115
@[go_sem] theorem und116 : Tryz.prog.underlying 116 = some (Go.TypeDesc.pointer 112) := Tryz.underlying116
@[go_sem] theorem und117 : Tryz.prog.underlying 117 = some (Go.TypeDesc.func #[26] #[4] false) := Tryz.underlying117
@[go_sem] theorem und118 : Tryz.prog.underlying 118 = some (Go.TypeDesc.tuple #[29, 4]) := Tryz.underlying118
@[go_sem] theorem und119 : Tryz.prog.underlying 119 = some (Go.TypeDesc.func #[9] #[29, 4] false) := Tryz.underlying119
@[go_sem] theorem und120 : Tryz.prog.underlying 120 = some (Go.TypeDesc.tuple #[3, 30]) := Tryz.underlying120
@[go_sem] theorem und121 : Tryz.prog.underlying 121 = some (Go.TypeDesc.func #[9] #[3, 30] false) := Tryz.underlying121
@[go_sem] theorem und122 : Tryz.prog.underlying 122 = some (Go.TypeDesc.func #[3] #[3] false) := Tryz.underlying122
@[go_sem] theorem und123 : Tryz.prog.underlying 123 = some (Go.TypeDesc.func #[3] #[9] false) := Tryz.underlying123
@[go_sem] theorem und124 : Tryz.prog.underlying 124 = some (Go.TypeDesc.func #[9, 3] #[9] false) := Tryz.underlying124
@[go_sem] theorem und125 : Tryz.prog.underlying 125 = some (Go.TypeDesc.pointer 5) := Tryz.underlying125
@[go_sem] theorem und126 : Tryz.prog.underlying 126 = some (Go.TypeDesc.func #[9, 105, 4] #[3] false) := Tryz.underlying126
@[go_sem] theorem und127 : Tryz.prog.underlying 127 = some (Go.TypeDesc.func #[9, 5] #[3] false) := Tryz.underlying127
@[go_sem] theorem und128 : Tryz.prog.underlying 128 = some (Go.TypeDesc.int Go.IntKind.u64) := Tryz.underlying128
@[go_sem] theorem und129 : Tryz.prog.underlying 129 = some (Go.TypeDesc.tuple #[128, 93]) := Tryz.underlying129
@[go_sem] theorem und130 : Tryz.prog.underlying 130 = some (Go.TypeDesc.func #[9, 3, 3] #[128, 93] false) := Tryz.underlying130
@[go_sem] theorem und131 : Tryz.prog.underlying 131 = some (Go.TypeDesc.func #[5] #[4] false) := Tryz.underlying131
@[go_sem] theorem und132 : Tryz.prog.underlying 132 = some (Go.TypeDesc.func #[9, 21] #[4] false) := Tryz.underlying132
@[go_sem] theorem und133 : Tryz.prog.underlying 133 = some (Go.TypeDesc.func #[26, 62] #[4] false) := Tryz.underlying133
@[go_sem] theorem und134 : Tryz.prog.underlying 134 = some (Go.TypeDesc.func #[26, 9] #[3] false) := Tryz.underlying134
@[go_sem] theorem und135 : Tryz.prog.underlying 135 = some (Go.TypeDesc.array 12 3) := Tryz.underlying135
@[go_sem] theorem und136 : Tryz.prog.underlying 136 = some Go.TypeDesc.unsafePointer := Tryz.underlying136
@[go_sem] theorem und137 : Tryz.prog.underlying 137 = some (Go.TypeDesc.func #[136] #[136] false) := Tryz.underlying137
@[go_sem] theorem und138 : Tryz.prog.underlying 138 = some (Go.TypeDesc.int Go.IntKind.u64) := Tryz.underlying138
@[go_sem] theorem und139 : Tryz.prog.underlying 139 = some (Go.TypeDesc.tuple #[138, 138]) := Tryz.underlying139
@[go_sem] theorem und140 : Tryz.prog.underlying 140 = some (Go.TypeDesc.func #[138, 138] #[138, 138] false) := Tryz.underlying140
@[go_sem] theorem und141 : Tryz.prog.underlying 141 = some (Go.TypeDesc.func #[3] #[] false) := Tryz.underlying141
@[go_sem] theorem und142 : Tryz.prog.underlying 142 = some (Go.TypeDesc.array 256 5) := Tryz.underlying142
@[go_sem] theorem und143 : Tryz.prog.underlying 143 = some (Go.TypeDesc.struct #[{ name := "lo", type := 5, offset := 0, embedded := false, tag := "", pkgPath := "unicode/utf8", byteOffset := 0 }, { name := "hi", type := 5, offset := 1, embedded := false, tag := "", pkgPath := "unicode/utf8", byteOffset := 1 }]) := Tryz.underlying143
@[go_sem] theorem und144 : Tryz.prog.underlying 144 = some (Go.TypeDesc.struct #[{ name := "lo", type := 5, offset := 0, embedded := false, tag := "", pkgPath := "unicode/utf8", byteOffset := 0 }, { name := "hi", type := 5, offset := 1, embedded := false, tag := "", pkgPath := "unicode/utf8", byteOffset := 1 }]) := Tryz.underlying144
@[go_sem] theorem und145 : Tryz.prog.underlying 145 = some (Go.TypeDesc.array 16 144) := Tryz.underlying145
@[go_sem] theorem und146 : Tryz.prog.underlying 146 = some (Go.TypeDesc.func #[9, 9, 3, 3, 93] #[93] false) := Tryz.underlying146
@[go_sem] theorem und147 : Tryz.prog.underlying 147 = some (Go.TypeDesc.func #[9, 21] #[3] false) := Tryz.underlying147
@[go_sem] theorem und148 : Tryz.prog.underlying 148 = some (Go.TypeDesc.func #[9] #[12] false) := Tryz.underlying148
@[go_sem] theorem und149 : Tryz.prog.underlying 149 = some (Go.TypeDesc.func #[26, 62] #[3] false) := Tryz.underlying149
@[go_sem] theorem und150 : Tryz.prog.underlying 150 = some (Go.TypeDesc.func #[2, 3] #[9] false) := Tryz.underlying150
@[go_sem] theorem und151 : Tryz.prog.underlying 151 = some (Go.TypeDesc.int Go.IntKind.u32) := Tryz.underlying151
@[go_sem] theorem und152 : Tryz.prog.underlying 152 = some (Go.TypeDesc.tuple #[151, 151]) := Tryz.underlying152
@[go_sem] theorem und153 : Tryz.prog.underlying 153 = some (Go.TypeDesc.func #[151, 151] #[151, 151] false) := Tryz.underlying153
@[go_sem] theorem und154 : Tryz.prog.underlying 154 = some (Go.TypeDesc.tuple #[128, 128]) := Tryz.underlying154
@[go_sem] theorem und155 : Tryz.prog.underlying 155 = some (Go.TypeDesc.func #[128, 128] #[128, 128] false) := Tryz.underlying155
@[go_sem] theorem und156 : Tryz.prog.underlying 156 = some (Go.TypeDesc.int Go.IntKind.i64) := Tryz.underlying156
@[go_sem] theorem und157 : Tryz.prog.underlying 157 = some (Go.TypeDesc.func #[5] #[5] false) := Tryz.underlying157
@[go_sem] theorem und158 : Tryz.prog.underlying 158 = some (Go.TypeDesc.pointer 170) := Tryz.underlying158
@[go_sem] theorem und159 : Tryz.prog.underlying 159 = some (Go.TypeDesc.func #[9, 9] #[158] false) := Tryz.underlying159
@[go_sem] theorem und160 : Tryz.prog.underlying 160 = some (Go.TypeDesc.func #[9, 9, 3] #[158] false) := Tryz.underlying160
@[go_sem] theorem und161 : Tryz.prog.underlying 161 = some (Go.TypeDesc.func #[9, 9] #[3] false) := Tryz.underlying161
@[go_sem] theorem und162 : Tryz.prog.underlying 162 = some (Go.TypeDesc.array 24 5) := Tryz.underlying162
@[go_sem] theorem und163 : Tryz.prog.underlying 163 = some (Go.TypeDesc.func #[128] #[3] false) := Tryz.underlying163
@[go_sem] theorem und164 : Tryz.prog.underlying 164 = some (Go.TypeDesc.func #[22, 128] #[] false) := Tryz.underlying164
@[go_sem] theorem und165 : Tryz.prog.underlying 165 = some (Go.TypeDesc.tuple #[22, 9]) := Tryz.underlying165
@[go_sem] theorem und166 : Tryz.prog.underlying 166 = some (Go.TypeDesc.func #[22, 128, 3, 4, 4] #[22, 9] false) := Tryz.underlying166
@[go_sem] theorem und167 : Tryz.prog.underlying 167 = some (Go.TypeDesc.func #[3] #[22] false) := Tryz.underlying167
@[go_sem] theorem und168 : Tryz.prog.underlying 168 = some (Go.TypeDesc.func #[9] #[9] false) := Tryz.underlying168
@[go_sem] theorem und169 : Tryz.prog.underlying 169 = some (Go.TypeDesc.struct #[{ name := "Func", type := 9, offset := 0, embedded := false, tag := "", pkgPath := "", byteOffset := 0 }, { name := "Num", type := 9, offset := 1, embedded := false, tag := "", pkgPath := "", byteOffset := 16 }, { name := "Err", type := 93, offset := 2, embedded := false, tag := "", pkgPath := "", byteOffset := 32 }]) := Tryz.underlying169
@[go_sem] theorem und170 : Tryz.prog.underlying 170 = some (Go.TypeDesc.struct #[{ name := "Func", type := 9, offset := 0, embedded := false, tag := "", pkgPath := "", byteOffset := 0 }, { name := "Num", type := 9, offset := 1, embedded := false, tag := "", pkgPath := "", byteOffset := 16 }, { name := "Err", type := 93, offset := 2, embedded := false, tag := "", pkgPath := "", byteOffset := 32 }]) := Tryz.underlying170
@[go_sem] theorem und171 : Tryz.prog.underlying 171 = some (Go.TypeDesc.func #[9] #[93] false) := Tryz.underlying171
@[go_sem] theorem und172 : Tryz.prog.underlying 172 = some (Go.TypeDesc.tuple #[2, 93]) := Tryz.underlying172
@[go_sem] theorem und173 : Tryz.prog.underlying 173 = some (Go.TypeDesc.func #[9, 3, 3] #[2, 93] false) := Tryz.underlying173
@[go_sem] theorem und174 : Tryz.prog.underlying 174 = some (Go.TypeDesc.func #[4] #[3] false) := Tryz.underlying174
@[go_sem] theorem und175 : Tryz.prog.underlying 175 = some (Go.TypeDesc.array 20 128) := Tryz.underlying175
@[go_sem] theorem und176 : Tryz.prog.underlying 176 = some (Go.TypeDesc.array 65 5) := Tryz.underlying176
@[go_sem] theorem und177 : Tryz.prog.underlying 177 = some (Go.TypeDesc.func #[138] #[3] false) := Tryz.underlying177
@[go_sem] theorem und178 : Tryz.prog.underlying 178 = some (Go.TypeDesc.pointer 180) := Tryz.underlying178
@[go_sem] theorem und179 : Tryz.prog.underlying 179 = some (Go.TypeDesc.struct #[{ name := "s", type := 9, offset := 0, embedded := false, tag := "", pkgPath := "errors", byteOffset := 0 }]) := Tryz.underlying179
@[go_sem] theorem und180 : Tryz.prog.underlying 180 = some (Go.TypeDesc.struct #[{ name := "s", type := 9, offset := 0, embedded := false, tag := "", pkgPath := "errors", byteOffset := 0 }]) := Tryz.underlying180
@[go_sem] theorem und181 : Tryz.prog.underlying 181 = some (Go.TypeDesc.func #[151] #[3] false) := Tryz.underlying181
@[go_sem] theorem und182 : Tryz.prog.underlying 182 = some (Go.TypeDesc.array 32 5) := Tryz.underlying182
@[go_sem] theorem und183 : Tryz.prog.underlying 183 = some (Go.TypeDesc.array 64 5) := Tryz.underlying183
@[go_sem] theorem und184 : Tryz.prog.underlying 184 = some (Go.TypeDesc.struct #[{ name := "_interface", type := 17, offset := 0, embedded := false, tag := "", pkgPath := "runtime", byteOffset := 0 }, { name := "concrete", type := 17, offset := 1, embedded := false, tag := "", pkgPath := "runtime", byteOffset := 8 }, { name := "asserted", type := 17, offset := 2, embedded := false, tag := "", pkgPath := "runtime", byteOffset := 16 }, { name := "missingMethod", type := 9, offset := 3, embedded := false, tag := "", pkgPath := "runtime", byteOffset := 24 }]) := Tryz.underlying184
@[go_sem] theorem und185 : Tryz.prog.underlying 185 = some (Go.TypeDesc.struct #[{ name := "_interface", type := 17, offset := 0, embedded := false, tag := "", pkgPath := "runtime", byteOffset := 0 }, { name := "concrete", type := 17, offset := 1, embedded := false, tag := "", pkgPath := "runtime", byteOffset := 8 }, { name := "asserted", type := 17, offset := 2, embedded := false, tag := "", pkgPath := "runtime", byteOffset := 16 }, { name := "missingMethod", type := 9, offset := 3, embedded := false, tag := "", pkgPath := "runtime", byteOffset := 24 }]) := Tryz.underlying185
@[go_sem] theorem und186 : Tryz.prog.underlying 186 = some (Go.TypeDesc.array 0 16) := Tryz.underlying186
@[go_sem] theorem und187 : Tryz.prog.underlying 187 = some (Go.TypeDesc.struct #[{ name := "_", type := 186, offset := 0, embedded := false, tag := "", pkgPath := "runtime", byteOffset := 0 }]) := Tryz.underlying187
@[go_sem] theorem und188 : Tryz.prog.underlying 188 = some (Go.TypeDesc.struct #[{ name := "_", type := 186, offset := 0, embedded := false, tag := "", pkgPath := "runtime", byteOffset := 0 }]) := Tryz.underlying188
@[go_sem] theorem und189 : Tryz.prog.underlying 189 = some (Go.TypeDesc.int Go.IntKind.u8) := Tryz.underlying189
@[go_sem] theorem und190 : Tryz.prog.underlying 190 = some (Go.TypeDesc.int Go.IntKind.u8) := Tryz.underlying190
@[go_sem] theorem und191 : Tryz.prog.underlying 191 = some (Go.TypeDesc.func #[136, 136] #[4] false) := Tryz.underlying191
@[go_sem] theorem und192 : Tryz.prog.underlying 192 = some (Go.TypeDesc.int Go.IntKind.i32) := Tryz.underlying192
@[go_sem] theorem und193 : Tryz.prog.underlying 193 = some (Go.TypeDesc.int Go.IntKind.i32) := Tryz.underlying193
@[go_sem] theorem und194 : Tryz.prog.underlying 194 = some (Go.TypeDesc.struct #[{ name := "Size_", type := 12, offset := 0, embedded := false, tag := "", pkgPath := "", byteOffset := 0 }, { name := "PtrBytes", type := 12, offset := 1, embedded := false, tag := "", pkgPath := "", byteOffset := 8 }, { name := "Hash", type := 151, offset := 2, embedded := false, tag := "", pkgPath := "", byteOffset := 16 }, { name := "TFlag", type := 189, offset := 3, embedded := false, tag := "", pkgPath := "", byteOffset := 20 }, { name := "Align_", type := 5, offset := 4, embedded := false, tag := "", pkgPath := "", byteOffset := 21 }, { name := "FieldAlign_", type := 5, offset := 5, embedded := false, tag := "", pkgPath := "", byteOffset := 22 }, { name := "Kind_", type := 190, offset := 6, embedded := false, tag := "", pkgPath := "", byteOffset := 23 }, { name := "Equal", type := 191, offset := 7, embedded := false, tag := "", pkgPath := "", byteOffset := 24 }, { name := "GCData", type := 125, offset := 8, embedded := false, tag := "", pkgPath := "", byteOffset := 32 }, { name := "Str", type := 192, offset := 9, embedded := false, tag := "", pkgPath := "", byteOffset := 40 }, { name := "PtrToThis", type := 193, offset := 10, embedded := false, tag := "", pkgPath := "", byteOffset := 44 }]) := Tryz.underlying194
@[go_sem] theorem und195 : Tryz.prog.underlying 195 = some (Go.TypeDesc.struct #[{ name := "Size_", type := 12, offset := 0, embedded := false, tag := "", pkgPath := "", byteOffset := 0 }, { name := "PtrBytes", type := 12, offset := 1, embedded := false, tag := "", pkgPath := "", byteOffset := 8 }, { name := "Hash", type := 151, offset := 2, embedded := false, tag := "", pkgPath := "", byteOffset := 16 }, { name := "TFlag", type := 189, offset := 3, embedded := false, tag := "", pkgPath := "", byteOffset := 20 }, { name := "Align_", type := 5, offset := 4, embedded := false, tag := "", pkgPath := "", byteOffset := 21 }, { name := "FieldAlign_", type := 5, offset := 5, embedded := false, tag := "", pkgPath := "", byteOffset := 22 }, { name := "Kind_", type := 190, offset := 6, embedded := false, tag := "", pkgPath := "", byteOffset := 23 }, { name := "Equal", type := 191, offset := 7, embedded := false, tag := "", pkgPath := "", byteOffset := 24 }, { name := "GCData", type := 125, offset := 8, embedded := false, tag := "", pkgPath := "", byteOffset := 32 }, { name := "Str", type := 192, offset := 9, embedded := false, tag := "", pkgPath := "", byteOffset := 40 }, { name := "PtrToThis", type := 193, offset := 10, embedded := false, tag := "", pkgPath := "", byteOffset := 44 }]) := Tryz.underlying195
set_option maxRecDepth 100000
def impCodC : FuncId → Bool := fun f => f == 16 || f == 17 || f == 18 || f == 30 || f == 31 || f == 32 || f == 48 || f == 50 || f == 57 || f == 58 || f == 74 || f == 86 || f == 100 || f == 116
/-- escutcheon/escutcheonlaw22.awake -/
def lc5 : LCode := .seq (.reg []
  [o1 0 (.assign (.const (.bool false)))]) (.seq (.reg []
  [o1 4 (.call ⟨.value (.func 14), #[.const (.string { data := #[105] }), .const (.string { data := #[97] }), .const (.int .i64 0), .const (.int .i64 5), .const (.slice none 0 0)], #[9, 9, 3, 3, 26]⟩),
  o1 3 (.move (.tmp 4)),
  o1 5 (.extract (.tmp 3) 0),
  o1 6 (.extract (.tmp 3) 1),
  o1 1 (.alloc 29),
  o3 (.store 29 (.tmp 1) (.tmp 5)),
  o1 2 (.assign (.tmp 6))]) (.seq (.reg [o1 7 (.move (.tmp 2)),
  o1 8 (.binOp .eql 30 (.tmp 7) (.const (.int .i64 0)) 30),
  o1 9 (.move (.tmp 8)),
  o2 10 (.load 29 (.tmp 1)) 9 true,
  o2 11 (.call ⟨.value (.func 15), #[.const (.string { data := #[105] }), .const (.string { data := #[97] })], #[9, 9]⟩) 9 true,
  o2 12 (.call ⟨.value (.func 8), #[.tmp 10, .const (.int .i64 5), .tmp 11], #[29, 3, 23]⟩) 9 true,
  o2 13 (.binOp .eql 30 (.tmp 12) (.const (.int .i64 14)) 30) 9 true,
  o1 14 (.pick (.tmp 9) (.tmp 13) (.const (.bool false))),
  o1 0 (.assign (.tmp 14))]
  []) (.ret)))
theorem ls5 : Tryz.f5.body.map (strip Tryz.prog impCodC) = some lc5 := by kernel_rfl
theorem lcall5 : LC 5 15 lc5 [.tmp 0] := LC.of Tryz.func5 (by kernel_rfl) ls5 (by kernel_rfl) (by kernel_rfl)
/-- escutcheon/claim.Check -/
def lc8 : LCode := .seq (.reg []
  [o1 3 (.box 29 (.tmp 0)),
  o1 6 (.assign (.const (.int .i64 0)))]) (.seq (.reg []
  [o1 11 (.load 29 (.tmp 3)),
  o1 12 (.move (.tmp 1)),
  o1 13 (.build 56 #[(0, .tmp 11), (1, .tmp 12)]),
  o1 7 (.alloc 56),
  o3 (.store 56 (.tmp 7) (.tmp 13))]) (.seq (.seq (.reg []
  [o1 14 (.fieldAddr 56 (.tmp 7) 0),
  o1 15 (.fieldAddr 29 (.tmp 14) 0),
  o1 16 (.load 25 (.tmp 15)),
  o1 17 (.binOp .neq 25 (.tmp 16) (.const (.int .i64 6)) 25),
  o1 18 (.move (.tmp 17)),
  o2 19 (.load 29 (.tmp 3)) 18 false,
  o2 20 (.call ⟨.value (.func 19), #[.tmp 19], #[29]⟩) 18 false,
  o2 21 (.binOp .neq 30 (.tmp 20) (.const (.int .i64 0)) 30) 18 false,
  o1 22 (.pick (.tmp 18) (.const (.bool true)) (.tmp 21))]) (.cond (.tmp 22) (.seq (.reg []
  [o1 6 (.assign (.const (.int .i64 2)))]) (.ret)) (.skip))) (.seq (.seq (.reg []
  [o1 23 (.move (.tmp 2)),
  o1 24 (.call ⟨.builtin .len, #[.tmp 23], #[23]⟩),
  o1 25 (.move (.const (.int .i64 0)))]) (.block 0 (.loop (.seq (.reg []
  [o1 26 (.binOp .lss 3 (.tmp 25) (.tmp 24) 3)]) (.seq (.cond (.tmp 26) (.skip) (.exit 0)) (.seq (.block 1 (.seq (.reg []
  [o1 27 (.indexAddr 23 (.tmp 23) (.tmp 25)),
  o1 28 (.load 45 (.tmp 27)),
  o1 9 (.alloc 45),
  o3 (.store 45 (.tmp 9) (.tmp 28))]) (.seq (.reg []
  [o1 29 (.load 56 (.tmp 7)),
  o1 30 (.load 45 (.tmp 9)),
  o1 31 (.call ⟨.value (.func 20), #[.tmp 29, .tmp 30], #[56, 45]⟩),
  o1 10 (.assign (.tmp 31))]) (.seq (.reg []
  [o1 32 (.move (.tmp 10)),
  o1 33 (.binOp .neq 30 (.tmp 32) (.const (.int .i64 0)) 30)]) (.cond (.tmp 33) (.seq (.reg []
  [o1 34 (.move (.tmp 10)),
  o1 6 (.assign (.tmp 34))]) (.ret)) (.skip)))))) (.reg []
  [o1 35 (.binOp .add 3 (.tmp 25) (.const (.int .i64 1)) 3),
  o1 25 (.move (.tmp 35))]))))))) (.seq (.reg []
  [o1 6 (.assign (.const (.int .i64 0)))]) (.ret)))))
def ms8_0 : List Nat := [0, 1, 2, 3, 4, 5, 6, 8, 9, 10, 11, 12, 13, 14, 15, 16, 17, 18, 19, 20, 21, 22, 25, 26, 27, 28, 29, 30, 31, 32, 33, 34, 35]
theorem ls8 : Tryz.f8.body.map (strip Tryz.prog impCodC) = some lc8 := by kernel_rfl
theorem lcall8 : LC 8 36 lc8 [.tmp 6] := LC.of Tryz.func8 (by kernel_rfl) ls8 (by kernel_rfl) (by kernel_rfl)
/-- escutcheon/page.Of -/
def lc28 : LCode := .seq (.reg []
  [o1 2 (.alloc 29)]) (.seq (.reg []
  [o1 5 (.build 29 #[(0, .const (.int .i64 6))]),
  o1 3 (.alloc 29),
  o3 (.store 29 (.tmp 3) (.tmp 5))]) (.seq (.seq (.reg []
  [o1 6 (.move (.tmp 0)),
  o1 7 (.call ⟨.value (.func 51), #[.tmp 6, .const (.int .i64 2)], #[26, 3]⟩)]) (.block 0 (.bad))) (.seq (.reg []
  [o1 29 (.load 29 (.tmp 3)),
  o3 (.store 29 (.tmp 2) (.tmp 29))]) (.ret))))
/-- escutcheon/page.Good -/
def lc19 : LCode := .seq (.reg []
  [o1 1 (.box 29 (.tmp 0)),
  o1 2 (.assign (.const (.int .i64 0)))]) (.seq (.reg []
  [o1 3 (.load 29 (.tmp 1)),
  o1 4 (.call ⟨.value (.func 35), #[.tmp 3, .const (.int .i64 1)], #[29, 3]⟩),
  o1 2 (.assign (.tmp 4))]) (.ret))
theorem ls19 : Tryz.f19.body.map (strip Tryz.prog impCodC) = some lc19 := by kernel_rfl
theorem lcall19 : LC 19 5 lc19 [.tmp 2] := LC.of Tryz.func19 (by kernel_rfl) ls19 (by kernel_rfl) (by kernel_rfl)
/-- escutcheon/claim.Make -/
def lc14 : LCode := .seq (.reg []
  [o1 10 (.alloc 29),
  o1 11 (.assign (.const (.int .i64 0)))]) (.seq (.reg []
  [o1 18 (.move (.tmp 2)),
  o1 19 (.call ⟨.value (.func 27), #[.tmp 18], #[3]⟩),
  o1 17 (.move (.tmp 19)),
  o1 20 (.extract (.tmp 17) 0),
  o1 21 (.extract (.tmp 17) 1),
  o1 12 (.assign (.tmp 20)),
  o1 13 (.assign (.tmp 21))]) (.seq (.seq (.reg []
  [o1 22 (.move (.tmp 13)),
  o1 23 (.binOp .neq 30 (.tmp 22) (.const (.int .i64 0)) 30)]) (.cond (.tmp 23) (.seq (.reg []
  [o1 24 (.build 29 #[]),
  o1 25 (.move (.tmp 13)),
  o3 (.store 29 (.tmp 10) (.tmp 24)),
  o1 11 (.assign (.tmp 25))]) (.ret)) (.skip))) (.seq (.reg []
  [o1 27 (.move (.tmp 3)),
  o1 28 (.call ⟨.value (.func 27), #[.tmp 27], #[3]⟩),
  o1 26 (.move (.tmp 28)),
  o1 29 (.extract (.tmp 26) 0),
  o1 30 (.extract (.tmp 26) 1),
  o1 14 (.assign (.tmp 29)),
  o1 13 (.assign (.tmp 30))]) (.seq (.seq (.reg []
  [o1 31 (.move (.tmp 13)),
  o1 32 (.binOp .neq 30 (.tmp 31) (.const (.int .i64 0)) 30)]) (.cond (.tmp 32) (.seq (.reg []
  [o1 33 (.build 29 #[]),
  o1 34 (.move (.tmp 13)),
  o3 (.store 29 (.tmp 10) (.tmp 33)),
  o1 11 (.assign (.tmp 34))]) (.ret)) (.skip))) (.seq (.reg []
  [o1 35 (.move (.tmp 0)),
  o1 36 (.move (.tmp 1)),
  o1 37 (.move (.tmp 12)),
  o1 38 (.move (.tmp 14)),
  o1 39 (.buildSlice 26 8 #[(0, .const (.string { data := #[105, 115, 115] })), (1, .tmp 35), (2, .const (.string { data := #[97, 117, 100] })), (3, .tmp 36), (4, .const (.string { data := #[110, 98, 102] })), (5, .tmp 37), (6, .const (.string { data := #[101, 120, 112] })), (7, .tmp 38)]),
  o1 40 (.move (.tmp 4)),
  o1 41 (.buildSlice 101 2 #[(0, .tmp 39), (1, .tmp 40)]),
  o1 42 (.call ⟨.value (.func 29), #[.tmp 41], #[101]⟩),
  o1 43 (.call ⟨.value (.func 28), #[.tmp 42], #[26]⟩),
  o1 15 (.alloc 29),
  o3 (.store 29 (.tmp 15) (.tmp 43))]) (.seq (.seq (.reg []
  [o1 44 (.load 29 (.tmp 15)),
  o1 45 (.call ⟨.value (.func 19), #[.tmp 44], #[29]⟩),
  o1 16 (.assign (.tmp 45))]) (.seq (.reg []
  [o1 46 (.move (.tmp 16)),
  o1 47 (.binOp .neq 30 (.tmp 46) (.const (.int .i64 0)) 30)]) (.cond (.tmp 47) (.seq (.reg []
  [o1 48 (.build 29 #[]),
  o1 49 (.move (.tmp 16)),
  o3 (.store 29 (.tmp 10) (.tmp 48)),
  o1 11 (.assign (.tmp 49))]) (.ret)) (.skip)))) (.seq (.reg []
  [o1 50 (.load 29 (.tmp 15)),
  o3 (.store 29 (.tmp 10) (.tmp 50)),
  o1 11 (.assign (.const (.int .i64 0)))]) (.ret))))))))
theorem ls14 : Tryz.f14.body.map (strip Tryz.prog impCodC) = some lc14 := by kernel_rfl
theorem lcall14 : LC 14 51 lc14 [.cell 10 29, .tmp 11] := LC.of Tryz.func14 (by kernel_rfl) ls14 (by kernel_rfl) (by kernel_rfl)
/-- escutcheon/claim.Usual -/
def lc15 : LCode := .seq (.reg []
  [o1 4 (.assign (.const (.slice none 0 0)))]) (.seq (.reg []
  [o1 5 (.move (.tmp 0)),
  o1 6 (.build 45 #[(0, .const (.int .i64 1)), (1, .const (.string { data := #[105, 115, 115] })), (2, .tmp 5)]),
  o1 7 (.move (.tmp 1)),
  o1 8 (.build 45 #[(0, .const (.int .i64 1)), (1, .const (.string { data := #[97, 117, 100] })), (2, .tmp 7)]),
  o1 9 (.build 45 #[(0, .const (.int .i64 3)), (1, .const (.string { data := #[110, 98, 102] })), (2, .const (.string { data := #[] }))]),
  o1 10 (.build 45 #[(0, .const (.int .i64 4)), (1, .const (.string { data := #[101, 120, 112] })), (2, .const (.string { data := #[] }))]),
  o1 11 (.buildSlice 23 4 #[(0, .tmp 6), (1, .tmp 8), (2, .tmp 9), (3, .tmp 10)]),
  o1 4 (.assign (.tmp 11))]) (.ret))
theorem ls15 : Tryz.f15.body.map (strip Tryz.prog impCodC) = some lc15 := by kernel_rfl
theorem lcall15 : LC 15 12 lc15 [.tmp 4] := LC.of Tryz.func15 (by kernel_rfl) ls15 (by kernel_rfl) (by kernel_rfl)
/-- (escutcheon/claim.claims).check -/
def lc20 : LCode := .seq (.reg []
  [o1 2 (.box 56 (.tmp 0)),
  o1 3 (.box 45 (.tmp 1)),
  o1 4 (.assign (.const (.int .i64 0)))]) (.seq (.seq (.reg []
  [o1 7 (.fieldAddr 45 (.tmp 3) 0),
  o1 8 (.load 43 (.tmp 7)),
  o1 9 (.binOp .lss 43 (.tmp 8) (.const (.int .i64 1)) 43),
  o1 10 (.move (.tmp 9)),
  o2 11 (.fieldAddr 45 (.tmp 3) 0) 10 false,
  o2 12 (.load 43 (.tmp 11)) 10 false,
  o2 13 (.binOp .gtr 43 (.tmp 12) (.const (.int .i64 4)) 43) 10 false,
  o1 14 (.pick (.tmp 10) (.const (.bool true)) (.tmp 13))]) (.cond (.tmp 14) (.seq (.reg []
  [o1 4 (.assign (.const (.int .i64 2)))]) (.ret)) (.skip))) (.seq (.reg []
  [o1 16 (.load 56 (.tmp 2)),
  o1 17 (.fieldAddr 45 (.tmp 3) 1),
  o1 18 (.load 9 (.tmp 17)),
  o1 19 (.call ⟨.value (.func 36), #[.tmp 16, .tmp 18], #[56, 9]⟩),
  o1 15 (.move (.tmp 19)),
  o1 20 (.extract (.tmp 15) 0),
  o1 21 (.extract (.tmp 15) 1),
  o1 5 (.assign (.tmp 20)),
  o1 6 (.assign (.tmp 21))]) (.seq (.seq (.reg []
  [o1 22 (.move (.tmp 6)),
  o1 23 (.unOp .not 4 (.tmp 22))]) (.cond (.tmp 23) (.seq (.reg []
  [o1 4 (.assign (.const (.int .i64 15)))]) (.ret)) (.skip))) (.seq (.reg []
  [o1 24 (.load 45 (.tmp 3)),
  o1 25 (.move (.tmp 5)),
  o1 26 (.fieldAddr 56 (.tmp 2) 1),
  o1 27 (.load 3 (.tmp 26)),
  o1 28 (.call ⟨.value (.func 37), #[.tmp 24, .tmp 25, .tmp 27], #[45, 9, 3]⟩),
  o1 4 (.assign (.tmp 28))]) (.ret)))))
theorem ls20 : Tryz.f20.body.map (strip Tryz.prog impCodC) = some lc20 := by kernel_rfl
theorem lcall20 : LC 20 29 lc20 [.tmp 4] := LC.of Tryz.func20 (by kernel_rfl) ls20 (by kernel_rfl) (by kernel_rfl)
/-- (escutcheon/page.Value).good -/
def lc35 : LCode := .seq (.reg []
  [o1 2 (.box 29 (.tmp 0)),
  o1 4 (.assign (.const (.int .i64 0)))]) (.seq (.block 0 (.seq (.reg []
  [o1 9 (.move (.tmp 1)),
  o1 10 (.binOp .gtr 3 (.tmp 9) (.const (.int .i64 8)) 3),
  o1 8 (.assign (.tmp 10))]) (.cond (.tmp 8) (.seq (.reg []
  [o1 4 (.assign (.const (.int .i64 9)))]) (.ret)) (.seq (.reg []
  [o1 12 (.load 29 (.tmp 2)),
  o1 13 (.call ⟨.value (.func 65), #[.tmp 12], #[29]⟩),
  o1 14 (.unOp .not 4 (.tmp 13)),
  o1 11 (.assign (.tmp 14))]) (.cond (.tmp 11) (.seq (.reg []
  [o1 4 (.assign (.const (.int .i64 2)))]) (.ret)) (.seq (.reg []
  [o1 16 (.fieldAddr 29 (.tmp 2) 3),
  o1 17 (.load 27 (.tmp 16)),
  o1 18 (.call ⟨.builtin .len, #[.tmp 17], #[27]⟩),
  o1 19 (.binOp .gtr 3 (.tmp 18) (.const (.int .i64 64)) 3),
  o1 15 (.assign (.tmp 19))]) (.cond (.tmp 15) (.seq (.reg []
  [o1 4 (.assign (.const (.int .i64 11)))]) (.ret)) (.seq (.reg []
  [o1 21 (.fieldAddr 29 (.tmp 2) 2),
  o1 22 (.load 26 (.tmp 21)),
  o1 23 (.call ⟨.value (.func 66), #[.tmp 22], #[26]⟩),
  o1 20 (.assign (.tmp 23))]) (.cond (.tmp 20) (.seq (.reg []
  [o1 4 (.assign (.const (.int .i64 10)))]) (.ret)) (.skip)))))))))) (.seq (.seq (.reg []
  [o1 24 (.fieldAddr 29 (.tmp 2) 3),
  o1 25 (.load 27 (.tmp 24)),
  o1 26 (.call ⟨.builtin .len, #[.tmp 25], #[27]⟩),
  o1 27 (.move (.const (.int .i64 0)))]) (.block 1 (.loop (.seq (.reg []
  [o1 28 (.binOp .lss 3 (.tmp 27) (.tmp 26) 3)]) (.seq (.cond (.tmp 28) (.skip) (.exit 1)) (.seq (.block 2 (.seq (.reg []
  [o1 29 (.indexAddr 27 (.tmp 25) (.tmp 27)),
  o1 30 (.load 29 (.tmp 29)),
  o1 6 (.alloc 29),
  o3 (.store 29 (.tmp 6) (.tmp 30))]) (.seq (.reg []
  [o1 31 (.load 29 (.tmp 6)),
  o1 32 (.move (.tmp 1)),
  o1 33 (.binOp .add 3 (.tmp 32) (.const (.int .i64 1)) 3),
  o1 34 (.call ⟨.value (.func 35), #[.tmp 31, .tmp 33], #[29, 3]⟩),
  o1 7 (.assign (.tmp 34))]) (.seq (.reg []
  [o1 35 (.move (.tmp 7)),
  o1 36 (.binOp .neq 30 (.tmp 35) (.const (.int .i64 0)) 30)]) (.cond (.tmp 36) (.seq (.reg []
  [o1 37 (.move (.tmp 7)),
  o1 4 (.assign (.tmp 37))]) (.ret)) (.skip)))))) (.reg []
  [o1 38 (.binOp .add 3 (.tmp 27) (.const (.int .i64 1)) 3),
  o1 27 (.move (.tmp 38))]))))))) (.seq (.reg []
  [o1 4 (.assign (.const (.int .i64 0)))]) (.ret))))
def ms35_0 : List Nat := [0, 2, 3, 4, 5, 6, 7, 8, 9, 10, 11, 12, 13, 14, 15, 16, 17, 18, 19, 20, 21, 22, 23, 24, 27, 28, 29, 30, 31, 32, 33, 34, 35, 36, 37, 38]
theorem ls35 : Tryz.f35.body.map (strip Tryz.prog impCodC) = some lc35 := by kernel_rfl
theorem lcall35 : LC 35 39 lc35 [.tmp 4] := LC.of Tryz.func35 (by kernel_rfl) ls35 (by kernel_rfl) (by kernel_rfl)
/-- (escutcheon/claim.claims).text -/
def lc36 : LCode := .seq (.reg []
  [o1 2 (.box 56 (.tmp 0)),
  o1 4 (.assign (.const (.string { data := #[] }))),
  o1 5 (.assign (.const (.bool false)))]) (.seq (.reg []
  [o1 9 (.fieldAddr 56 (.tmp 2) 0),
  o1 10 (.load 29 (.tmp 9)),
  o1 11 (.move (.tmp 1)),
  o1 12 (.call ⟨.value (.func 67), #[.tmp 10, .tmp 11], #[29, 9]⟩),
  o1 8 (.move (.tmp 12)),
  o1 13 (.extract (.tmp 8) 0),
  o1 14 (.extract (.tmp 8) 1),
  o1 6 (.alloc 29),
  o3 (.store 29 (.tmp 6) (.tmp 13)),
  o1 7 (.assign (.tmp 14))]) (.seq (.reg [o1 15 (.fieldAddr 29 (.tmp 6) 1),
  o1 16 (.load 9 (.tmp 15)),
  o1 17 (.move (.tmp 7)),
  o1 18 (.move (.tmp 17)),
  o2 19 (.fieldAddr 29 (.tmp 6) 0) 18 true,
  o2 20 (.load 25 (.tmp 19)) 18 true,
  o2 21 (.binOp .eql 25 (.tmp 20) (.const (.int .i64 4)) 25) 18 true,
  o1 22 (.pick (.tmp 18) (.tmp 21) (.const (.bool false))),
  o1 4 (.assign (.tmp 16)),
  o1 5 (.assign (.tmp 22))]
  []) (.ret)))
theorem ls36 : Tryz.f36.body.map (strip Tryz.prog impCodC) = some lc36 := by kernel_rfl
theorem lcall36 : LC 36 23 lc36 [.tmp 4, .tmp 5] := LC.of Tryz.func36 (by kernel_rfl) ls36 (by kernel_rfl) (by kernel_rfl)
/-- (escutcheon/claim.Rule).wrong -/
def lc37 : LCode := .seq (.reg []
  [o1 3 (.box 45 (.tmp 0)),
  o1 6 (.assign (.const (.int .i64 0)))]) (.seq (.seq (.reg []
  [o1 9 (.fieldAddr 45 (.tmp 3) 0),
  o1 10 (.load 43 (.tmp 9)),
  o1 11 (.binOp .eql 43 (.tmp 10) (.const (.int .i64 1)) 43),
  o1 12 (.move (.tmp 11)),
  o2 13 (.move (.tmp 1)) 12 true,
  o2 14 (.fieldAddr 45 (.tmp 3) 2) 12 true,
  o2 15 (.load 9 (.tmp 14)) 12 true,
  o2 16 (.binOp .neq 9 (.tmp 13) (.tmp 15) 9) 12 true,
  o1 17 (.pick (.tmp 12) (.tmp 16) (.const (.bool false)))]) (.cond (.tmp 17) (.seq (.reg []
  [o1 6 (.assign (.const (.int .i64 15)))]) (.ret)) (.skip))) (.seq (.seq (.reg []
  [o1 18 (.fieldAddr 45 (.tmp 3) 0),
  o1 19 (.load 43 (.tmp 18)),
  o1 20 (.binOp .eql 43 (.tmp 19) (.const (.int .i64 1)) 43),
  o1 21 (.move (.tmp 20)),
  o2 22 (.fieldAddr 45 (.tmp 3) 0) 21 false,
  o2 23 (.load 43 (.tmp 22)) 21 false,
  o2 24 (.binOp .eql 43 (.tmp 23) (.const (.int .i64 2)) 43) 21 false,
  o1 25 (.pick (.tmp 21) (.const (.bool true)) (.tmp 24))]) (.cond (.tmp 25) (.seq (.reg []
  [o1 6 (.assign (.const (.int .i64 0)))]) (.ret)) (.skip))) (.seq (.reg []
  [o1 27 (.move (.tmp 1)),
  o1 28 (.call ⟨.value (.func 68), #[.tmp 27], #[9]⟩),
  o1 26 (.move (.tmp 28)),
  o1 29 (.extract (.tmp 26) 0),
  o1 30 (.extract (.tmp 26) 1),
  o1 7 (.assign (.tmp 29)),
  o1 8 (.assign (.tmp 30))]) (.seq (.block 0 (.seq (.reg []
  [o1 32 (.move (.tmp 8)),
  o1 33 (.binOp .neq 30 (.tmp 32) (.const (.int .i64 0)) 30),
  o1 31 (.assign (.tmp 33))]) (.cond (.tmp 31) (.seq (.reg []
  [o1 6 (.assign (.const (.int .i64 12)))]) (.ret)) (.seq (.reg []
  [o1 35 (.fieldAddr 45 (.tmp 3) 0),
  o1 36 (.load 43 (.tmp 35)),
  o1 37 (.binOp .eql 43 (.tmp 36) (.const (.int .i64 3)) 43),
  o1 38 (.move (.tmp 37)),
  o2 39 (.move (.tmp 7)) 38 true,
  o2 40 (.move (.tmp 2)) 38 true,
  o2 41 (.binOp .gtr 3 (.tmp 39) (.tmp 40) 3) 38 true,
  o1 42 (.pick (.tmp 38) (.tmp 41) (.const (.bool false))),
  o1 34 (.assign (.tmp 42))]) (.cond (.tmp 34) (.seq (.reg []
  [o1 6 (.assign (.const (.int .i64 13)))]) (.ret)) (.seq (.reg []
  [o1 44 (.fieldAddr 45 (.tmp 3) 0),
  o1 45 (.load 43 (.tmp 44)),
  o1 46 (.binOp .eql 43 (.tmp 45) (.const (.int .i64 4)) 43),
  o1 47 (.move (.tmp 46)),
  o2 48 (.move (.tmp 7)) 47 true,
  o2 49 (.move (.tmp 2)) 47 true,
  o2 50 (.binOp .leq 3 (.tmp 48) (.tmp 49) 3) 47 true,
  o1 51 (.pick (.tmp 47) (.tmp 50) (.const (.bool false))),
  o1 43 (.assign (.tmp 51))]) (.cond (.tmp 43) (.seq (.reg []
  [o1 6 (.assign (.const (.int .i64 14)))]) (.ret)) (.skip)))))))) (.seq (.reg []
  [o1 6 (.assign (.const (.int .i64 0)))]) (.ret))))))
theorem ls37 : Tryz.f37.body.map (strip Tryz.prog impCodC) = some lc37 := by kernel_rfl
theorem lcall37 : LC 37 52 lc37 [.tmp 6] := LC.of Tryz.func37 (by kernel_rfl) ls37 (by kernel_rfl) (by kernel_rfl)
/-- (escutcheon/page.Value).form -/
def lc65 : LCode := .seq (.reg []
  [o1 1 (.box 29 (.tmp 0)),
  o1 2 (.assign (.const (.bool false)))]) (.seq (.seq (.reg []
  [o1 3 (.fieldAddr 29 (.tmp 1) 0),
  o1 4 (.load 25 (.tmp 3))]) (.block 0 (.seq (.seq (.reg []
  [o1 6 (.binOp .eql 25 (.tmp 4) (.const (.int .i64 0)) 25),
  o1 5 (.assign (.tmp 6))]) (.cond (.tmp 5) (.skip) (.seq (.reg []
  [o1 7 (.binOp .eql 25 (.tmp 4) (.const (.int .i64 1)) 25),
  o1 5 (.assign (.tmp 7))]) (.cond (.tmp 5) (.skip) (.reg []
  [o1 8 (.binOp .eql 25 (.tmp 4) (.const (.int .i64 2)) 25),
  o1 5 (.assign (.tmp 8))]))))) (.cond (.tmp 5) (.seq (.reg []
  [o1 9 (.fieldAddr 29 (.tmp 1) 1),
  o1 10 (.load 9 (.tmp 9)),
  o1 11 (.binOp .eql 9 (.tmp 10) (.const (.string { data := #[] })) 9),
  o1 12 (.move (.tmp 11)),
  o2 13 (.fieldAddr 29 (.tmp 1) 2) 12 true,
  o2 14 (.load 26 (.tmp 13)) 12 true,
  o2 15 (.call ⟨.builtin .len, #[.tmp 14], #[26]⟩) 12 true,
  o2 16 (.binOp .eql 3 (.tmp 15) (.const (.int .i64 0)) 3) 12 true,
  o1 17 (.pick (.tmp 12) (.tmp 16) (.const (.bool false))),
  o1 18 (.move (.tmp 17)),
  o2 19 (.fieldAddr 29 (.tmp 1) 3) 18 true,
  o2 20 (.load 27 (.tmp 19)) 18 true,
  o2 21 (.call ⟨.builtin .len, #[.tmp 20], #[27]⟩) 18 true,
  o2 22 (.binOp .eql 3 (.tmp 21) (.const (.int .i64 0)) 3) 18 true,
  o1 23 (.pick (.tmp 18) (.tmp 22) (.const (.bool false))),
  o1 2 (.assign (.tmp 23))]) (.ret)) (.seq (.reg []
  [o1 25 (.binOp .eql 25 (.tmp 4) (.const (.int .i64 3)) 25),
  o1 24 (.assign (.tmp 25))]) (.cond (.tmp 24) (.seq (.reg [o1 26 (.fieldAddr 29 (.tmp 1) 2),
  o1 27 (.load 26 (.tmp 26)),
  o1 28 (.call ⟨.builtin .len, #[.tmp 27], #[26]⟩),
  o1 29 (.binOp .eql 3 (.tmp 28) (.const (.int .i64 0)) 3),
  o1 30 (.move (.tmp 29)),
  o2 31 (.fieldAddr 29 (.tmp 1) 3) 30 true,
  o2 32 (.load 27 (.tmp 31)) 30 true,
  o2 33 (.call ⟨.builtin .len, #[.tmp 32], #[27]⟩) 30 true,
  o2 34 (.binOp .eql 3 (.tmp 33) (.const (.int .i64 0)) 3) 30 true,
  o1 35 (.pick (.tmp 30) (.tmp 34) (.const (.bool false))),
  o1 36 (.move (.tmp 35)),
  o2 37 (.fieldAddr 29 (.tmp 1) 1) 36 true,
  o2 38 (.load 9 (.tmp 37)) 36 true,
  o2 39 (.binOp .neq 9 (.tmp 38) (.const (.string { data := #[] })) 9) 36 true,
  o1 40 (.pick (.tmp 36) (.tmp 39) (.const (.bool false))),
  o1 41 (.move (.tmp 40)),
  o2 42 (.fieldAddr 29 (.tmp 1) 1) 41 true,
  o2 43 (.load 9 (.tmp 42)) 41 true,
  o2 44 (.call ⟨.builtin .len, #[.tmp 43], #[9]⟩) 41 true,
  o2 45 (.binOp .leq 3 (.tmp 44) (.const (.int .i64 40)) 3) 41 true,
  o1 46 (.pick (.tmp 41) (.tmp 45) (.const (.bool false))),
  o1 47 (.move (.tmp 46)),
  o2 48 (.fieldAddr 29 (.tmp 1) 1) 47 true,
  o2 49 (.load 9 (.tmp 48)) 47 true,
  o2 50 (.call ⟨.value (.func 33), #[.tmp 49], #[9]⟩) 47 true,
  o2 51 (.fieldAddr 29 (.tmp 1) 1) 47 true,
  o2 52 (.load 9 (.tmp 51)) 47 true,
  o2 53 (.call ⟨.builtin .len, #[.tmp 52], #[9]⟩) 47 true,
  o2 54 (.binOp .eql 3 (.tmp 50) (.tmp 53) 3) 47 true,
  o1 55 (.pick (.tmp 47) (.tmp 54) (.const (.bool false))),
  o1 2 (.assign (.tmp 55))]
  []) (.ret)) (.seq (.reg []
  [o1 57 (.binOp .eql 25 (.tmp 4) (.const (.int .i64 4)) 25),
  o1 56 (.assign (.tmp 57))]) (.cond (.tmp 56) (.seq (.reg []
  [o1 58 (.fieldAddr 29 (.tmp 1) 2),
  o1 59 (.load 26 (.tmp 58)),
  o1 60 (.call ⟨.builtin .len, #[.tmp 59], #[26]⟩),
  o1 61 (.binOp .eql 3 (.tmp 60) (.const (.int .i64 0)) 3),
  o1 62 (.move (.tmp 61)),
  o2 63 (.fieldAddr 29 (.tmp 1) 3) 62 true,
  o2 64 (.load 27 (.tmp 63)) 62 true,
  o2 65 (.call ⟨.builtin .len, #[.tmp 64], #[27]⟩) 62 true,
  o2 66 (.binOp .eql 3 (.tmp 65) (.const (.int .i64 0)) 3) 62 true,
  o1 67 (.pick (.tmp 62) (.tmp 66) (.const (.bool false))),
  o1 68 (.move (.tmp 67)),
  o2 69 (.fieldAddr 29 (.tmp 1) 1) 68 true,
  o2 70 (.load 9 (.tmp 69)) 68 true,
  o2 71 (.call ⟨.value (.func 88), #[.tmp 70], #[9]⟩) 68 true,
  o1 72 (.pick (.tmp 68) (.tmp 71) (.const (.bool false))),
  o1 2 (.assign (.tmp 72))]) (.ret)) (.seq (.reg []
  [o1 74 (.binOp .eql 25 (.tmp 4) (.const (.int .i64 5)) 25),
  o1 73 (.assign (.tmp 74))]) (.cond (.tmp 73) (.seq (.reg []
  [o1 75 (.fieldAddr 29 (.tmp 1) 1),
  o1 76 (.load 9 (.tmp 75)),
  o1 77 (.binOp .eql 9 (.tmp 76) (.const (.string { data := #[] })) 9),
  o1 78 (.move (.tmp 77)),
  o2 79 (.fieldAddr 29 (.tmp 1) 2) 78 true,
  o2 80 (.load 26 (.tmp 79)) 78 true,
  o2 81 (.call ⟨.builtin .len, #[.tmp 80], #[26]⟩) 78 true,
  o2 82 (.binOp .eql 3 (.tmp 81) (.const (.int .i64 0)) 3) 78 true,
  o1 83 (.pick (.tmp 78) (.tmp 82) (.const (.bool false))),
  o1 2 (.assign (.tmp 83))]) (.ret)) (.seq (.reg []
  [o1 85 (.binOp .eql 25 (.tmp 4) (.const (.int .i64 6)) 25),
  o1 84 (.assign (.tmp 85))]) (.cond (.tmp 84) (.seq (.reg []
  [o1 86 (.fieldAddr 29 (.tmp 1) 1),
  o1 87 (.load 9 (.tmp 86)),
  o1 88 (.binOp .eql 9 (.tmp 87) (.const (.string { data := #[] })) 9),
  o1 89 (.move (.tmp 88)),
  o2 90 (.fieldAddr 29 (.tmp 1) 2) 89 true,
  o2 91 (.load 26 (.tmp 90)) 89 true,
  o2 92 (.call ⟨.builtin .len, #[.tmp 91], #[26]⟩) 89 true,
  o2 93 (.fieldAddr 29 (.tmp 1) 3) 89 true,
  o2 94 (.load 27 (.tmp 93)) 89 true,
  o2 95 (.call ⟨.builtin .len, #[.tmp 94], #[27]⟩) 89 true,
  o2 96 (.binOp .eql 3 (.tmp 92) (.tmp 95) 3) 89 true,
  o1 97 (.pick (.tmp 89) (.tmp 96) (.const (.bool false))),
  o1 98 (.move (.tmp 97)),
  o2 99 (.fieldAddr 29 (.tmp 1) 2) 98 true,
  o2 100 (.load 26 (.tmp 99)) 98 true,
  o2 101 (.call ⟨.value (.func 89), #[.tmp 100, .func 90], #[26, 62]⟩) 98 true,
  o2 102 (.unOp .not 4 (.tmp 101)) 98 true,
  o1 103 (.pick (.tmp 98) (.tmp 102) (.const (.bool false))),
  o1 2 (.assign (.tmp 103))]) (.ret)) (.skip))))))))))))) (.seq (.reg []
  [o1 2 (.assign (.const (.bool false)))]) (.ret)))
theorem ls65 : Tryz.f65.body.map (strip Tryz.prog impCodC) = some lc65 := by kernel_rfl
theorem lcall65 : LC 65 104 lc65 [.tmp 2] := LC.of Tryz.func65 (by kernel_rfl) ls65 (by kernel_rfl) (by kernel_rfl)
/-- escutcheon/page.twice -/
def lc66 : LCode := .seq (.reg []
  [o1 2 (.assign (.const (.bool false)))]) (.seq (.seq (.reg []
  [o1 5 (.move (.tmp 0)),
  o1 6 (.call ⟨.builtin .len, #[.tmp 5], #[26]⟩),
  o1 7 (.move (.const (.int .i64 0)))]) (.block 0 (.loop (.seq (.reg []
  [o1 8 (.binOp .lss 3 (.tmp 7) (.tmp 6) 3)]) (.seq (.cond (.tmp 8) (.skip) (.exit 0)) (.seq (.block 1 (.seq (.reg []
  [o1 9 (.move (.tmp 7)),
  o1 10 (.indexAddr 26 (.tmp 5) (.tmp 7)),
  o1 11 (.load 9 (.tmp 10)),
  o1 3 (.assign (.tmp 9)),
  o1 4 (.assign (.tmp 11))]) (.seq (.reg []
  [o1 12 (.move (.tmp 0)),
  o1 13 (.move (.tmp 3)),
  o1 14 (.slice 26 (.tmp 12) none (some (.tmp 13)) none),
  o1 15 (.move (.tmp 4)),
  o1 16 (.call ⟨.value (.func 84), #[.tmp 14, .tmp 15], #[26, 9]⟩)]) (.cond (.tmp 16) (.seq (.reg []
  [o1 2 (.assign (.const (.bool true)))]) (.ret)) (.skip))))) (.reg []
  [o1 17 (.binOp .add 3 (.tmp 7) (.const (.int .i64 1)) 3),
  o1 7 (.move (.tmp 17))]))))))) (.seq (.reg []
  [o1 2 (.assign (.const (.bool false)))]) (.ret)))
def ms66_0 : List Nat := [1, 2, 3, 4, 7, 8, 9, 10, 11, 12, 13, 14, 15, 16, 17]
theorem ls66 : Tryz.f66.body.map (strip Tryz.prog impCodC) = some lc66 := by kernel_rfl
theorem lcall66 : LC 66 18 lc66 [.tmp 2] := LC.of Tryz.func66 (by kernel_rfl) ls66 (by kernel_rfl) (by kernel_rfl)
/-- slices.Grow[[]string,string] -/
def lc52 : LCode := .seq (.reg []
  [o1 4 (.assign (.const (.slice none 0 0)))]) (.seq (.seq (.reg []
  [o1 5 (.move (.tmp 1)),
  o1 6 (.binOp .lss 3 (.tmp 5) (.const (.int .i64 0)) 3)]) (.cond (.tmp 6) (.reg []
  [o1 7 (.makeInterface 9 (.const (.string { data := #[99, 97, 110, 110, 111, 116, 32, 98, 101, 32, 110, 101, 103, 97, 116, 105, 118, 101] }))),
  o3 (.panic (.tmp 7))]) (.skip))) (.seq (.seq (.reg []
  [o1 8 (.move (.tmp 1)),
  o1 9 (.move (.tmp 0)),
  o1 10 (.call ⟨.builtin .cap, #[.tmp 9], #[26]⟩),
  o1 11 (.move (.tmp 0)),
  o1 12 (.call ⟨.builtin .len, #[.tmp 11], #[26]⟩),
  o1 13 (.binOp .sub 3 (.tmp 10) (.tmp 12) 3),
  o1 14 (.binOp .sub 3 (.tmp 8) (.tmp 13) 3),
  o1 1 (.assign (.tmp 14))]) (.seq (.reg []
  [o1 15 (.move (.tmp 1)),
  o1 16 (.binOp .gtr 3 (.tmp 15) (.const (.int .i64 0)) 3)]) (.cond (.tmp 16) (.reg []
  [o1 17 (.move (.tmp 0)),
  o1 18 (.move (.tmp 0)),
  o1 19 (.call ⟨.builtin .cap, #[.tmp 18], #[26]⟩),
  o1 20 (.slice 26 (.tmp 17) none (some (.tmp 19)) none),
  o1 21 (.move (.tmp 1)),
  o1 22 (.call ⟨.builtin .append, #[.tmp 20, .tmp 21], #[26, 3]⟩),
  o1 23 (.move (.tmp 0)),
  o1 24 (.call ⟨.builtin .len, #[.tmp 23], #[26]⟩),
  o1 25 (.slice 26 (.tmp 22) none (some (.tmp 24)) none),
  o1 0 (.assign (.tmp 25))]) (.skip)))) (.seq (.reg []
  [o1 26 (.move (.tmp 0)),
  o1 4 (.assign (.tmp 26))]) (.ret))))
theorem ls52 : Tryz.f52.body.map (strip Tryz.prog impCodC) = some lc52 := by kernel_rfl
theorem lcall52 : LC 52 27 lc52 [.tmp 4] := LC.of Tryz.func52 (by kernel_rfl) ls52 (by kernel_rfl) (by kernel_rfl)
/-- (escutcheon/page.Value).Get -/
def lc67 : LCode := .seq (.reg []
  [o1 2 (.box 29 (.tmp 0)),
  o1 4 (.alloc 29),
  o1 5 (.assign (.const (.bool false)))]) (.seq (.reg []
  [o1 7 (.fieldAddr 29 (.tmp 2) 2),
  o1 8 (.load 26 (.tmp 7)),
  o1 9 (.move (.tmp 1)),
  o1 10 (.call ⟨.value (.func 91), #[.tmp 8, .tmp 9], #[26, 9]⟩),
  o1 6 (.assign (.tmp 10))]) (.seq (.seq (.reg []
  [o1 11 (.fieldAddr 29 (.tmp 2) 0),
  o1 12 (.load 25 (.tmp 11)),
  o1 13 (.binOp .neq 25 (.tmp 12) (.const (.int .i64 6)) 25),
  o1 14 (.move (.tmp 13)),
  o2 15 (.move (.tmp 6)) 14 false,
  o2 16 (.binOp .lss 3 (.tmp 15) (.const (.int .i64 0)) 3) 14 false,
  o1 17 (.pick (.tmp 14) (.const (.bool true)) (.tmp 16)),
  o1 18 (.move (.tmp 17)),
  o2 19 (.move (.tmp 6)) 18 false,
  o2 20 (.fieldAddr 29 (.tmp 2) 3) 18 false,
  o2 21 (.load 27 (.tmp 20)) 18 false,
  o2 22 (.call ⟨.builtin .len, #[.tmp 21], #[27]⟩) 18 false,
  o2 23 (.binOp .geq 3 (.tmp 19) (.tmp 22) 3) 18 false,
  o1 24 (.pick (.tmp 18) (.const (.bool true)) (.tmp 23))]) (.cond (.tmp 24) (.seq (.reg []
  [o1 25 (.build 29 #[]),
  o3 (.store 29 (.tmp 4) (.tmp 25)),
  o1 5 (.assign (.const (.bool false)))]) (.ret)) (.skip))) (.seq (.reg []
  [o1 26 (.fieldAddr 29 (.tmp 2) 3),
  o1 27 (.load 27 (.tmp 26)),
  o1 28 (.move (.tmp 6)),
  o1 29 (.indexAddr 27 (.tmp 27) (.tmp 28)),
  o1 30 (.load 29 (.tmp 29)),
  o3 (.store 29 (.tmp 4) (.tmp 30)),
  o1 5 (.assign (.const (.bool true)))]) (.ret))))
theorem ls67 : Tryz.f67.body.map (strip Tryz.prog impCodC) = some lc67 := by kernel_rfl
theorem lcall67 : LC 67 31 lc67 [.cell 4 29, .tmp 5] := LC.of Tryz.func67 (by kernel_rfl) ls67 (by kernel_rfl) (by kernel_rfl)
/-- unicode/utf8.ValidString -/
def lc88 : LCode := .seq (.reg []
  [o1 2 (.assign (.const (.bool false)))]) (.seq (.block 0 (.loop (.seq (.seq (.reg []
  [o1 7 (.move (.tmp 0)),
  o1 8 (.call ⟨.builtin .len, #[.tmp 7], #[9]⟩),
  o1 9 (.binOp .gtr 3 (.tmp 8) (.const (.int .i64 0)) 3)]) (.cond (.tmp 9) (.skip) (.exit 0))) (.block 1 (.seq (.reg []
  [o1 10 (.move (.tmp 0)),
  o1 11 (.index 9 (.tmp 10) (.const (.int .i64 0))),
  o1 3 (.assign (.tmp 11))]) (.seq (.seq (.reg []
  [o1 12 (.move (.tmp 3)),
  o1 13 (.binOp .lss 5 (.tmp 12) (.const (.int .u8 128)) 5)]) (.cond (.tmp 13) (.seq (.reg []
  [o1 14 (.move (.tmp 0)),
  o1 15 (.slice 9 (.tmp 14) (some (.const (.int .i64 1))) none none),
  o1 0 (.assign (.tmp 15))]) (.seq (.seq (.reg []
  [o1 16 (.move (.tmp 0)),
  o1 17 (.call ⟨.builtin .len, #[.tmp 16], #[9]⟩),
  o1 18 (.binOp .gtr 3 (.tmp 17) (.const (.int .i64 8)) 3),
  o1 19 (.move (.tmp 18)),
  o2 20 (.move (.tmp 0)) 19 true,
  o2 21 (.call ⟨.value (.func 109), #[.tmp 20], #[9]⟩) 19 true,
  o2 22 (.binOp .and 12 (.tmp 21) (.const (.int .u64 9259542123273814144)) 12) 19 true,
  o2 23 (.binOp .eql 12 (.tmp 22) (.const (.int .u64 0)) 12) 19 true,
  o1 24 (.pick (.tmp 19) (.tmp 23) (.const (.bool false)))]) (.cond (.tmp 24) (.seq (.reg []
  [o1 25 (.move (.tmp 0)),
  o1 26 (.slice 9 (.tmp 25) (some (.const (.int .i64 8))) none none),
  o1 0 (.assign (.tmp 26))]) (.seq (.reg [o1 27 (.move (.tmp 0)),
  o1 28 (.call ⟨.builtin .len, #[.tmp 27], #[9]⟩),
  o1 29 (.binOp .gtr 3 (.tmp 28) (.const (.int .i64 16)) 3),
  o1 30 (.move (.tmp 29)),
  o2 31 (.move (.tmp 0)) 30 true,
  o2 32 (.call ⟨.value (.func 109), #[.tmp 31], #[9]⟩) 30 true,
  o2 33 (.move (.tmp 0)) 30 true,
  o2 34 (.slice 9 (.tmp 33) (some (.const (.int .i64 8))) none none) 30 true,
  o2 35 (.call ⟨.value (.func 109), #[.tmp 34], #[9]⟩) 30 true,
  o2 36 (.binOp .or 12 (.tmp 32) (.tmp 35) 12) 30 true,
  o2 37 (.binOp .and 12 (.tmp 36) (.const (.int .u64 9259542123273814144)) 12) 30 true,
  o2 38 (.binOp .eql 12 (.tmp 37) (.const (.int .u64 0)) 12) 30 true,
  o1 39 (.pick (.tmp 30) (.tmp 38) (.const (.bool false)))]
  []) (.cond (.tmp 39) (.seq (.reg []
  [o1 40 (.move (.tmp 0)),
  o1 41 (.slice 9 (.tmp 40) (some (.const (.int .i64 16))) none none),
  o1 0 (.assign (.tmp 41))]) (.block 2 (.loop (.seq (.seq (.reg [o1 42 (.move (.tmp 0)),
  o1 43 (.call ⟨.builtin .len, #[.tmp 42], #[9]⟩),
  o1 44 (.binOp .gtr 3 (.tmp 43) (.const (.int .i64 32)) 3),
  o1 45 (.move (.tmp 44)),
  o2 46 (.move (.tmp 0)) 45 true,
  o2 47 (.call ⟨.value (.func 109), #[.tmp 46], #[9]⟩) 45 true,
  o2 48 (.move (.tmp 0)) 45 true,
  o2 49 (.slice 9 (.tmp 48) (some (.const (.int .i64 8))) none none) 45 true,
  o2 50 (.call ⟨.value (.func 109), #[.tmp 49], #[9]⟩) 45 true,
  o2 51 (.binOp .or 12 (.tmp 47) (.tmp 50) 12) 45 true,
  o2 52 (.move (.tmp 0)) 45 true,
  o2 53 (.slice 9 (.tmp 52) (some (.const (.int .i64 16))) none none) 45 true,
  o2 54 (.call ⟨.value (.func 109), #[.tmp 53], #[9]⟩) 45 true,
  o2 55 (.move (.tmp 0)) 45 true,
  o2 56 (.slice 9 (.tmp 55) (some (.const (.int .i64 24))) none none) 45 true,
  o2 57 (.call ⟨.value (.func 109), #[.tmp 56], #[9]⟩) 45 true,
  o2 58 (.binOp .or 12 (.tmp 54) (.tmp 57) 12) 45 true,
  o2 59 (.binOp .or 12 (.tmp 51) (.tmp 58) 12) 45 true,
  o2 60 (.binOp .and 12 (.tmp 59) (.const (.int .u64 9259542123273814144)) 12) 45 true,
  o2 61 (.binOp .eql 12 (.tmp 60) (.const (.int .u64 0)) 12) 45 true,
  o1 62 (.pick (.tmp 45) (.tmp 61) (.const (.bool false)))]
  []) (.cond (.tmp 62) (.skip) (.exit 2))) (.block 3 (.reg []
  [o1 63 (.move (.tmp 0)),
  o1 64 (.slice 9 (.tmp 63) (some (.const (.int .i64 32))) none none),
  o1 0 (.assign (.tmp 64))])))))) (.skip)))) (.skip))) (.exit 1))) (.skip))) (.seq (.reg []
  [o1 65 (.move (.tmp 3)),
  o1 66 (.indexAddr 142 (.global 2) (.tmp 65)),
  o1 67 (.load 5 (.tmp 66)),
  o1 4 (.assign (.tmp 67))]) (.seq (.reg []
  [o1 68 (.move (.tmp 4)),
  o1 69 (.binOp .and 5 (.tmp 68) (.const (.int .u8 7)) 5),
  o1 70 (.convert 5 3 (.tmp 69)),
  o1 5 (.assign (.tmp 70))]) (.seq (.reg []
  [o1 71 (.move (.tmp 4)),
  o1 72 (.binOp .shr 5 (.tmp 71) (.const (.int .u64 4)) 138),
  o1 73 (.indexAddr 145 (.global 3) (.tmp 72)),
  o1 74 (.load 144 (.tmp 73)),
  o1 6 (.alloc 144),
  o3 (.store 144 (.tmp 6) (.tmp 74))]) (.seq (.reg []
  [o1 75 (.move (.tmp 5))]) (.block 4 (.seq (.reg []
  [o1 77 (.binOp .eql 3 (.tmp 75) (.const (.int .i64 2)) 3),
  o1 76 (.assign (.tmp 77))]) (.cond (.tmp 76) (.seq (.seq (.reg [o1 78 (.move (.tmp 0)),
  o1 79 (.call ⟨.builtin .len, #[.tmp 78], #[9]⟩),
  o1 80 (.binOp .lss 3 (.tmp 79) (.const (.int .i64 2)) 3),
  o1 81 (.move (.tmp 80)),
  o2 82 (.move (.tmp 0)) 81 false,
  o2 83 (.index 9 (.tmp 82) (.const (.int .i64 1))) 81 false,
  o2 84 (.fieldAddr 144 (.tmp 6) 0) 81 false,
  o2 85 (.load 5 (.tmp 84)) 81 false,
  o2 86 (.binOp .lss 5 (.tmp 83) (.tmp 85) 5) 81 false,
  o1 87 (.pick (.tmp 81) (.const (.bool true)) (.tmp 86)),
  o1 88 (.move (.tmp 87)),
  o2 89 (.fieldAddr 144 (.tmp 6) 1) 88 false,
  o2 90 (.load 5 (.tmp 89)) 88 false,
  o2 91 (.move (.tmp 0)) 88 false,
  o2 92 (.index 9 (.tmp 91) (.const (.int .i64 1))) 88 false,
  o2 93 (.binOp .lss 5 (.tmp 90) (.tmp 92) 5) 88 false,
  o1 94 (.pick (.tmp 88) (.const (.bool true)) (.tmp 93))]
  []) (.cond (.tmp 94) (.seq (.reg []
  [o1 2 (.assign (.const (.bool false)))]) (.ret)) (.skip))) (.reg []
  [o1 95 (.move (.tmp 0)),
  o1 96 (.slice 9 (.tmp 95) (some (.const (.int .i64 2))) none none),
  o1 0 (.assign (.tmp 96))])) (.seq (.reg []
  [o1 98 (.binOp .eql 3 (.tmp 75) (.const (.int .i64 3)) 3),
  o1 97 (.assign (.tmp 98))]) (.cond (.tmp 97) (.seq (.seq (.reg [o1 99 (.move (.tmp 0)),
  o1 100 (.call ⟨.builtin .len, #[.tmp 99], #[9]⟩),
  o1 101 (.binOp .lss 3 (.tmp 100) (.const (.int .i64 3)) 3),
  o1 102 (.move (.tmp 101)),
  o2 103 (.move (.tmp 0)) 102 false,
  o2 104 (.index 9 (.tmp 103) (.const (.int .i64 1))) 102 false,
  o2 105 (.fieldAddr 144 (.tmp 6) 0) 102 false,
  o2 106 (.load 5 (.tmp 105)) 102 false,
  o2 107 (.binOp .lss 5 (.tmp 104) (.tmp 106) 5) 102 false,
  o1 108 (.pick (.tmp 102) (.const (.bool true)) (.tmp 107)),
  o1 109 (.move (.tmp 108)),
  o2 110 (.fieldAddr 144 (.tmp 6) 1) 109 false,
  o2 111 (.load 5 (.tmp 110)) 109 false,
  o2 112 (.move (.tmp 0)) 109 false,
  o2 113 (.index 9 (.tmp 112) (.const (.int .i64 1))) 109 false,
  o2 114 (.binOp .lss 5 (.tmp 111) (.tmp 113) 5) 109 false,
  o1 115 (.pick (.tmp 109) (.const (.bool true)) (.tmp 114)),
  o1 116 (.move (.tmp 115)),
  o2 117 (.move (.tmp 0)) 116 false,
  o2 118 (.index 9 (.tmp 117) (.const (.int .i64 2))) 116 false,
  o2 119 (.binOp .lss 5 (.tmp 118) (.const (.int .u8 128)) 5) 116 false,
  o1 120 (.pick (.tmp 116) (.const (.bool true)) (.tmp 119)),
  o1 121 (.move (.tmp 120)),
  o2 122 (.move (.tmp 0)) 121 false,
  o2 123 (.index 9 (.tmp 122) (.const (.int .i64 2))) 121 false,
  o2 124 (.binOp .lss 5 (.const (.int .u8 191)) (.tmp 123) 5) 121 false,
  o1 125 (.pick (.tmp 121) (.const (.bool true)) (.tmp 124))]
  []) (.cond (.tmp 125) (.seq (.reg []
  [o1 2 (.assign (.const (.bool false)))]) (.ret)) (.skip))) (.reg []
  [o1 126 (.move (.tmp 0)),
  o1 127 (.slice 9 (.tmp 126) (some (.const (.int .i64 3))) none none),
  o1 0 (.assign (.tmp 127))])) (.seq (.reg []
  [o1 129 (.binOp .eql 3 (.tmp 75) (.const (.int .i64 4)) 3),
  o1 128 (.assign (.tmp 129))]) (.cond (.tmp 128) (.seq (.seq (.reg [o1 130 (.move (.tmp 0)),
  o1 131 (.call ⟨.builtin .len, #[.tmp 130], #[9]⟩),
  o1 132 (.binOp .lss 3 (.tmp 131) (.const (.int .i64 4)) 3),
  o1 133 (.move (.tmp 132)),
  o2 134 (.move (.tmp 0)) 133 false,
  o2 135 (.index 9 (.tmp 134) (.const (.int .i64 1))) 133 false,
  o2 136 (.fieldAddr 144 (.tmp 6) 0) 133 false,
  o2 137 (.load 5 (.tmp 136)) 133 false,
  o2 138 (.binOp .lss 5 (.tmp 135) (.tmp 137) 5) 133 false,
  o1 139 (.pick (.tmp 133) (.const (.bool true)) (.tmp 138)),
  o1 140 (.move (.tmp 139)),
  o2 141 (.fieldAddr 144 (.tmp 6) 1) 140 false,
  o2 142 (.load 5 (.tmp 141)) 140 false,
  o2 143 (.move (.tmp 0)) 140 false,
  o2 144 (.index 9 (.tmp 143) (.const (.int .i64 1))) 140 false,
  o2 145 (.binOp .lss 5 (.tmp 142) (.tmp 144) 5) 140 false,
  o1 146 (.pick (.tmp 140) (.const (.bool true)) (.tmp 145)),
  o1 147 (.move (.tmp 146)),
  o2 148 (.move (.tmp 0)) 147 false,
  o2 149 (.index 9 (.tmp 148) (.const (.int .i64 2))) 147 false,
  o2 150 (.binOp .lss 5 (.tmp 149) (.const (.int .u8 128)) 5) 147 false,
  o1 151 (.pick (.tmp 147) (.const (.bool true)) (.tmp 150)),
  o1 152 (.move (.tmp 151)),
  o2 153 (.move (.tmp 0)) 152 false,
  o2 154 (.index 9 (.tmp 153) (.const (.int .i64 2))) 152 false,
  o2 155 (.binOp .lss 5 (.const (.int .u8 191)) (.tmp 154) 5) 152 false,
  o1 156 (.pick (.tmp 152) (.const (.bool true)) (.tmp 155)),
  o1 157 (.move (.tmp 156)),
  o2 158 (.move (.tmp 0)) 157 false,
  o2 159 (.index 9 (.tmp 158) (.const (.int .i64 3))) 157 false,
  o2 160 (.binOp .lss 5 (.tmp 159) (.const (.int .u8 128)) 5) 157 false,
  o1 161 (.pick (.tmp 157) (.const (.bool true)) (.tmp 160)),
  o1 162 (.move (.tmp 161)),
  o2 163 (.move (.tmp 0)) 162 false,
  o2 164 (.index 9 (.tmp 163) (.const (.int .i64 3))) 162 false,
  o2 165 (.binOp .lss 5 (.const (.int .u8 191)) (.tmp 164) 5) 162 false,
  o1 166 (.pick (.tmp 162) (.const (.bool true)) (.tmp 165))]
  []) (.cond (.tmp 166) (.seq (.reg []
  [o1 2 (.assign (.const (.bool false)))]) (.ret)) (.skip))) (.reg []
  [o1 167 (.move (.tmp 0)),
  o1 168 (.slice 9 (.tmp 167) (some (.const (.int .i64 4))) none none),
  o1 0 (.assign (.tmp 168))])) (.seq (.reg []
  [o1 2 (.assign (.const (.bool false)))]) (.ret))))))))))))))))))) (.seq (.reg []
  [o1 2 (.assign (.const (.bool true)))]) (.ret)))
def ms88_0 : List Nat := [0, 1, 2, 3, 4, 5, 6, 7, 8, 9, 10, 11, 12, 13, 14, 15, 16, 17, 18, 19, 20, 21, 22, 23, 24, 25, 26, 27, 28, 29, 30, 31, 32, 33, 34, 35, 36, 37, 38, 39, 40, 41, 42, 43, 44, 45, 46, 47, 48, 49, 50, 51, 52, 53, 54, 55, 56, 57, 58, 59, 60, 61, 62, 63, 64, 65, 66, 67, 68, 69, 70, 71, 72, 73, 74, 75, 76, 77, 78, 79, 80, 81, 82, 83, 84, 85, 86, 87, 88, 89, 90, 91, 92, 93, 94, 95, 96, 97, 98, 99, 100, 101, 102, 103, 104, 105, 106, 107, 108, 109, 110, 111, 112, 113, 114, 115, 116, 117, 118, 119, 120, 121, 122, 123, 124, 125, 126, 127, 128, 129, 130, 131, 132, 133, 134, 135, 136, 137, 138, 139, 140, 141, 142, 143, 144, 145, 146, 147, 148, 149, 150, 151, 152, 153, 154, 155, 156, 157, 158, 159, 160, 161, 162, 163, 164, 165, 166, 167, 168]
def ms88_1 : List Nat := [0, 1, 42, 43, 44, 45, 46, 47, 48, 49, 50, 51, 52, 53, 54, 55, 56, 57, 58, 59, 60, 61, 62, 63, 64]
theorem ls88 : Tryz.f88.body.map (strip Tryz.prog impCodC) = some lc88 := by kernel_rfl
theorem lcall88 : LC 88 169 lc88 [.tmp 2] := LC.of Tryz.func88 (by kernel_rfl) ls88 (by kernel_rfl) (by kernel_rfl)
/-- slices.ContainsFunc[[]string,string] -/
def lc89 : LCode := .seq (.reg []
  [o1 4 (.assign (.const (.bool false)))]) (.seq (.reg []
  [o1 5 (.move (.tmp 0)),
  o1 6 (.move (.tmp 1)),
  o1 7 (.call ⟨.value (.func 110), #[.tmp 5, .tmp 6], #[26, 62]⟩),
  o1 8 (.binOp .geq 3 (.tmp 7) (.const (.int .i64 0)) 3),
  o1 4 (.assign (.tmp 8))]) (.ret))
theorem ls89 : Tryz.f89.body.map (strip Tryz.prog impCodC) = some lc89 := by kernel_rfl
theorem lcall89 : LC 89 9 lc89 [.tmp 4] := LC.of Tryz.func89 (by kernel_rfl) ls89 (by kernel_rfl) (by kernel_rfl)
/-- (escutcheon/page.Value).form$1 -/
def lc90 : LCode := .seq (.reg []
  [o1 2 (.assign (.const (.bool false)))]) (.seq (.reg []
  [o1 3 (.move (.tmp 0)),
  o1 4 (.call ⟨.value (.func 88), #[.tmp 3], #[9]⟩),
  o1 5 (.unOp .not 4 (.tmp 4)),
  o1 2 (.assign (.tmp 5))]) (.ret))
theorem ls90 : Tryz.f90.body.map (strip Tryz.prog impCodC) = some lc90 := by kernel_rfl
theorem lcall90 : LC 90 6 lc90 [.tmp 2] := LC.of Tryz.func90 (by kernel_rfl) ls90 (by kernel_rfl) (by kernel_rfl)
/-- slices.Contains[[]string,string] -/
def lc84 : LCode := .seq (.reg []
  [o1 4 (.assign (.const (.bool false)))]) (.seq (.reg []
  [o1 5 (.move (.tmp 0)),
  o1 6 (.move (.tmp 1)),
  o1 7 (.call ⟨.value (.func 91), #[.tmp 5, .tmp 6], #[26, 9]⟩),
  o1 8 (.binOp .geq 3 (.tmp 7) (.const (.int .i64 0)) 3),
  o1 4 (.assign (.tmp 8))]) (.ret))
theorem ls84 : Tryz.f84.body.map (strip Tryz.prog impCodC) = some lc84 := by kernel_rfl
theorem lcall84 : LC 84 9 lc84 [.tmp 4] := LC.of Tryz.func84 (by kernel_rfl) ls84 (by kernel_rfl) (by kernel_rfl)
/-- slices.Index[[]string,string] -/
def lc91 : LCode := .seq (.reg []
  [o1 4 (.assign (.const (.int .i64 0)))]) (.seq (.seq (.reg []
  [o1 6 (.move (.tmp 0)),
  o1 7 (.call ⟨.builtin .len, #[.tmp 6], #[26]⟩),
  o1 8 (.move (.const (.int .i64 0)))]) (.block 0 (.loop (.seq (.reg []
  [o1 9 (.binOp .lss 3 (.tmp 8) (.tmp 7) 3)]) (.seq (.cond (.tmp 9) (.skip) (.exit 0)) (.seq (.block 1 (.seq (.reg []
  [o1 10 (.move (.tmp 8)),
  o1 5 (.assign (.tmp 10))]) (.seq (.reg []
  [o1 11 (.move (.tmp 1)),
  o1 12 (.move (.tmp 0)),
  o1 13 (.move (.tmp 5)),
  o1 14 (.indexAddr 26 (.tmp 12) (.tmp 13)),
  o1 15 (.load 9 (.tmp 14)),
  o1 16 (.binOp .eql 9 (.tmp 11) (.tmp 15) 9)]) (.cond (.tmp 16) (.seq (.reg []
  [o1 17 (.move (.tmp 5)),
  o1 4 (.assign (.tmp 17))]) (.ret)) (.skip))))) (.reg []
  [o1 18 (.binOp .add 3 (.tmp 8) (.const (.int .i64 1)) 3),
  o1 8 (.move (.tmp 18))]))))))) (.seq (.reg []
  [o1 4 (.assign (.const (.int .i64 (-1))))]) (.ret)))
def ms91_0 : List Nat := [2, 3, 4, 5, 6, 8, 9, 10, 11, 12, 13, 14, 15, 16, 17, 18]
theorem ls91 : Tryz.f91.body.map (strip Tryz.prog impCodC) = some lc91 := by kernel_rfl
theorem lcall91 : LC 91 19 lc91 [.tmp 4] := LC.of Tryz.func91 (by kernel_rfl) ls91 (by kernel_rfl) (by kernel_rfl)
/-- unicode/utf8.word[string] -/
def lc109 : LCode := .seq (.reg []
  [o1 2 (.assign (.const (.int .u64 0)))]) (.seq (.cond (.const (.bool false)) (.seq (.reg [o1 3 (.move (.tmp 0)),
  o1 4 (.index 9 (.tmp 3) (.const (.int .i64 0))),
  o1 5 (.convert 5 12 (.tmp 4)),
  o1 6 (.move (.tmp 0)),
  o1 7 (.index 9 (.tmp 6) (.const (.int .i64 1))),
  o1 8 (.convert 5 12 (.tmp 7)),
  o1 9 (.binOp .shl 12 (.tmp 8) (.const (.int .u64 8)) 138),
  o1 10 (.binOp .or 12 (.tmp 5) (.tmp 9) 12),
  o1 11 (.move (.tmp 0)),
  o1 12 (.index 9 (.tmp 11) (.const (.int .i64 2))),
  o1 13 (.convert 5 12 (.tmp 12)),
  o1 14 (.binOp .shl 12 (.tmp 13) (.const (.int .u64 16)) 138),
  o1 15 (.binOp .or 12 (.tmp 10) (.tmp 14) 12),
  o1 16 (.move (.tmp 0)),
  o1 17 (.index 9 (.tmp 16) (.const (.int .i64 3))),
  o1 18 (.convert 5 12 (.tmp 17)),
  o1 19 (.binOp .shl 12 (.tmp 18) (.const (.int .u64 24)) 138),
  o1 20 (.binOp .or 12 (.tmp 15) (.tmp 19) 12),
  o1 2 (.assign (.tmp 20))]
  []) (.ret)) (.skip)) (.seq (.reg [o1 21 (.move (.tmp 0)),
  o1 22 (.index 9 (.tmp 21) (.const (.int .i64 0))),
  o1 23 (.convert 5 128 (.tmp 22)),
  o1 24 (.move (.tmp 0)),
  o1 25 (.index 9 (.tmp 24) (.const (.int .i64 1))),
  o1 26 (.convert 5 128 (.tmp 25)),
  o1 27 (.binOp .shl 128 (.tmp 26) (.const (.int .u64 8)) 138),
  o1 28 (.binOp .or 128 (.tmp 23) (.tmp 27) 128),
  o1 29 (.move (.tmp 0)),
  o1 30 (.index 9 (.tmp 29) (.const (.int .i64 2))),
  o1 31 (.convert 5 128 (.tmp 30)),
  o1 32 (.binOp .shl 128 (.tmp 31) (.const (.int .u64 16)) 138),
  o1 33 (.binOp .or 128 (.tmp 28) (.tmp 32) 128),
  o1 34 (.move (.tmp 0)),
  o1 35 (.index 9 (.tmp 34) (.const (.int .i64 3))),
  o1 36 (.convert 5 128 (.tmp 35)),
  o1 37 (.binOp .shl 128 (.tmp 36) (.const (.int .u64 24)) 138),
  o1 38 (.binOp .or 128 (.tmp 33) (.tmp 37) 128),
  o1 39 (.move (.tmp 0)),
  o1 40 (.index 9 (.tmp 39) (.const (.int .i64 4))),
  o1 41 (.convert 5 128 (.tmp 40)),
  o1 42 (.binOp .shl 128 (.tmp 41) (.const (.int .u64 32)) 138),
  o1 43 (.binOp .or 128 (.tmp 38) (.tmp 42) 128),
  o1 44 (.move (.tmp 0)),
  o1 45 (.index 9 (.tmp 44) (.const (.int .i64 5))),
  o1 46 (.convert 5 128 (.tmp 45)),
  o1 47 (.binOp .shl 128 (.tmp 46) (.const (.int .u64 40)) 138),
  o1 48 (.binOp .or 128 (.tmp 43) (.tmp 47) 128),
  o1 49 (.move (.tmp 0)),
  o1 50 (.index 9 (.tmp 49) (.const (.int .i64 6))),
  o1 51 (.convert 5 128 (.tmp 50)),
  o1 52 (.binOp .shl 128 (.tmp 51) (.const (.int .u64 48)) 138),
  o1 53 (.binOp .or 128 (.tmp 48) (.tmp 52) 128),
  o1 54 (.move (.tmp 0)),
  o1 55 (.index 9 (.tmp 54) (.const (.int .i64 7))),
  o1 56 (.convert 5 128 (.tmp 55)),
  o1 57 (.binOp .shl 128 (.tmp 56) (.const (.int .u64 56)) 138),
  o1 58 (.binOp .or 128 (.tmp 53) (.tmp 57) 128),
  o1 2 (.assign (.tmp 58))]
  []) (.ret)))
theorem ls109 : Tryz.f109.body.map (strip Tryz.prog impCodC) = some lc109 := by kernel_rfl
theorem lcall109 : LC 109 59 lc109 [.tmp 2] := LC.of Tryz.func109 (by kernel_rfl) ls109 (by kernel_rfl) (by kernel_rfl)
/-- slices.IndexFunc[[]string,string] -/
def lc110 : LCode := .seq (.reg []
  [o1 4 (.assign (.const (.int .i64 0)))]) (.seq (.seq (.reg []
  [o1 6 (.move (.tmp 0)),
  o1 7 (.call ⟨.builtin .len, #[.tmp 6], #[26]⟩),
  o1 8 (.move (.const (.int .i64 0)))]) (.block 0 (.loop (.seq (.reg []
  [o1 9 (.binOp .lss 3 (.tmp 8) (.tmp 7) 3)]) (.seq (.cond (.tmp 9) (.skip) (.exit 0)) (.seq (.block 1 (.seq (.reg []
  [o1 10 (.move (.tmp 8)),
  o1 5 (.assign (.tmp 10))]) (.seq (.reg []
  [o1 11 (.move (.tmp 1)),
  o1 12 (.move (.tmp 0)),
  o1 13 (.move (.tmp 5)),
  o1 14 (.indexAddr 26 (.tmp 12) (.tmp 13)),
  o1 15 (.load 9 (.tmp 14)),
  o1 16 (.call ⟨.value (.tmp 11), #[.tmp 15], #[9]⟩)]) (.cond (.tmp 16) (.seq (.reg []
  [o1 17 (.move (.tmp 5)),
  o1 4 (.assign (.tmp 17))]) (.ret)) (.skip))))) (.reg []
  [o1 18 (.binOp .add 3 (.tmp 8) (.const (.int .i64 1)) 3),
  o1 8 (.move (.tmp 18))]))))))) (.seq (.reg []
  [o1 4 (.assign (.const (.int .i64 (-1))))]) (.ret)))
def ms110_0 : List Nat := [2, 3, 4, 5, 6, 8, 9, 10, 11, 12, 13, 14, 15, 16, 17, 18]
theorem ls110 : Tryz.f110.body.map (strip Tryz.prog impCodC) = some lc110 := by kernel_rfl
theorem lcall110 : LC 110 19 lc110 [.tmp 4] := LC.of Tryz.func110 (by kernel_rfl) ls110 (by kernel_rfl) (by kernel_rfl)
/-- slices.Concat[[]string,string] -/
def lc29 : LCode := .seq (.reg []
  [o1 2 (.assign (.const (.slice none 0 0)))]) (.seq (.reg []
  [o1 3 (.assign (.const (.int .i64 0)))]) (.seq (.seq (.reg []
  [o1 9 (.move (.tmp 0)),
  o1 10 (.call ⟨.builtin .len, #[.tmp 9], #[101]⟩),
  o1 11 (.move (.const (.int .i64 0)))]) (.block 0 (.loop (.seq (.reg []
  [o1 12 (.binOp .lss 3 (.tmp 11) (.tmp 10) 3)]) (.seq (.cond (.tmp 12) (.skip) (.exit 0)) (.seq (.block 1 (.seq (.reg []
  [o1 13 (.indexAddr 101 (.tmp 9) (.tmp 11)),
  o1 14 (.load 26 (.tmp 13)),
  o1 5 (.assign (.tmp 14))]) (.seq (.reg []
  [o1 15 (.move (.tmp 3)),
  o1 16 (.move (.tmp 5)),
  o1 17 (.call ⟨.builtin .len, #[.tmp 16], #[26]⟩),
  o1 18 (.binOp .add 3 (.tmp 15) (.tmp 17) 3),
  o1 3 (.assign (.tmp 18))]) (.seq (.reg []
  [o1 19 (.move (.tmp 3)),
  o1 20 (.binOp .lss 3 (.tmp 19) (.const (.int .i64 0)) 3)]) (.cond (.tmp 20) (.reg []
  [o1 21 (.makeInterface 9 (.const (.string { data := #[108, 101, 110, 32, 111, 117, 116, 32, 111, 102, 32, 114, 97, 110, 103, 101] }))),
  o3 (.panic (.tmp 21))]) (.skip)))))) (.reg []
  [o1 22 (.binOp .add 3 (.tmp 11) (.const (.int .i64 1)) 3),
  o1 11 (.move (.tmp 22))]))))))) (.seq (.reg []
  [o1 23 (.move (.tmp 3)),
  o1 24 (.call ⟨.value (.func 52), #[.const (.slice none 0 0), .tmp 23], #[26, 3]⟩),
  o1 6 (.assign (.tmp 24))]) (.seq (.seq (.reg []
  [o1 25 (.move (.tmp 0)),
  o1 26 (.call ⟨.builtin .len, #[.tmp 25], #[101]⟩),
  o1 27 (.move (.const (.int .i64 0)))]) (.block 2 (.loop (.seq (.reg []
  [o1 28 (.binOp .lss 3 (.tmp 27) (.tmp 26) 3)]) (.seq (.cond (.tmp 28) (.skip) (.exit 2)) (.seq (.block 3 (.seq (.reg []
  [o1 29 (.indexAddr 101 (.tmp 25) (.tmp 27)),
  o1 30 (.load 26 (.tmp 29)),
  o1 8 (.assign (.tmp 30))]) (.reg []
  [o1 31 (.move (.tmp 6)),
  o1 32 (.move (.tmp 8)),
  o1 33 (.call ⟨.builtin .append, #[.tmp 31, .tmp 32], #[26, 26]⟩),
  o1 6 (.assign (.tmp 33))]))) (.reg []
  [o1 34 (.binOp .add 3 (.tmp 27) (.const (.int .i64 1)) 3),
  o1 27 (.move (.tmp 34))]))))))) (.seq (.reg []
  [o1 35 (.move (.tmp 6)),
  o1 2 (.assign (.tmp 35))]) (.ret))))))
def ms29_0 : List Nat := [1, 3, 4, 5, 7, 11, 12, 13, 14, 15, 16, 17, 18, 19, 20, 21, 22]
def ms29_1 : List Nat := [0, 1, 3, 4, 5, 6, 7, 8, 9, 10, 11, 12, 13, 14, 15, 16, 17, 18, 19, 20, 21, 22, 23, 24, 27, 28, 29, 30, 31, 32, 33, 34]
theorem ls29 : Tryz.f29.body.map (strip Tryz.prog impCodC) = some lc29 := by kernel_rfl
theorem lcall29 : LC 29 36 lc29 [.tmp 2] := LC.of Tryz.func29 (by kernel_rfl) ls29 (by kernel_rfl) (by kernel_rfl)
end Go.Abs.S
namespace Go.Abs
set_option linter.unusedVariables false
variable {P : Program} {G : Glob} {t : List AV} {H : AHeap} {Q : APost}
/-- They meet here. -/
theorem lavc_joinS {a b : LCode} (ms : List Nat) {X : Type} (I : X → Prop) (live : X → List (Nat × AV)) (hp : X → AHeap)
    (h1 : lavc P G a t H fun e t' H' => match e with
      | .normal => ∃ x, I x ∧ ALe t' (putAll (blank t ms) (live x)) ∧ H' = hp x
      | e => Q e t' H') (h2 : ∀ x, I x → lavc P G b (putAll (blank t ms) (live x)) (hp x) Q) : lavc P G (.seq a b) t H Q := lavc_seq (lavc_join ms I live hp h1 h2)
/-- Arguments that may be looked at in two ways. -/
def AvLs : List AV → List AV → Prop
  | [], [] => True
  | x :: xs, y :: ys => AvLe x y ∧ AvLs xs ys
  | _, _ => False
theorem AvLs.length : ∀ {xs ys : List AV}, AvLs xs ys → xs.length = ys.length
  | [], [], _ => rfl
  | x :: xs, y :: ys, h => by simp [AvLs.length h.2]
  | [], _ :: _, h => h.elim
  | _ :: _, [], h => h.elim
theorem AvLs.get : ∀ {xs ys : List AV}, AvLs xs ys → ∀ j, j < xs.length → AvLe (xs.getD j .any) (ys.getD j .any)
  | [], [], _, j, hj => by simp at hj
  | x :: xs, y :: ys, h, 0, _ => by simpa using h.1
  | x :: xs, y :: ys, h, j + 1, hj => by simpa using AvLs.get h.2 j (by simpa using hj)
  | [], _ :: _, h, _, _ => h.elim
  | _ :: _, [], h, _, _ => h.elim
theorem PCall.les {n : FuncId} {args args' : List AV} {r : AV} (h : PCall P G n args' r) (hl : AvLs args args') : PCall P G n args r := h.le hl.length hl.get
theorem u8_of (x : Int) (h : 0 ≤ x ∧ x ≤ 255) : ((UInt8.ofNat x.toNat).toNat : Int) = x := by
  rw [UInt8.toNat_ofNat']
  omega
theorem bytes_str {l : List Int} (h : ∀ x ∈ l, 0 ≤ x ∧ x ≤ 255) : bytesOf (strOf l) = l := by
  unfold bytesOf
  have : (strOf l).data.toList = l.map fun n => UInt8.ofNat n.toNat := by simp [strOf]
  rw [this, List.map_map]
  conv => rhs; rw [← List.map_id l]
  exact List.map_congr_left fun x hx => u8_of x (h x hx)
theorem str_bytes (s : ByteArray) : strOf (bytesOf s) = s := by
  refine WideShapes.bytes_inj ?_
  unfold strOf bytesOf
  simp only [List.map_map]
  conv => rhs; rw [← List.map_id s.data.toList]
  refine List.map_congr_left fun x _ => ?_
  simp
theorem str_size (l : List Int) : (strOf l).size = l.length := by
  show ((l.map fun n => UInt8.ofNat n.toNat).toArray).size = _
  simp
theorem bytes_u8 (s : ByteArray) : ∀ x ∈ bytesOf s, 0 ≤ x ∧ x ≤ 255 := by
  intro x hx
  simp only [bytesOf, List.mem_map] at hx
  obtain ⟨b, _, rfl⟩ := hx
  have := b.toNat_lt
  omega
end Go.Abs
namespace Go.Abs.S
attribute [local go_sem] lguard aopO aop aenv toAV tput aLoad aStore vcells aBin aNilI aUn aAlloc aBox aBuild aBSlice afill aConv isIntT aappZ aCap aArr aMM aMake aSlice bnd3 bnd aFldAddr aFld aIdxAddr aIdx aExt aLen aCopy aEq0 bAV aUb aapp aappQ agh acont List.getD_cons_zero List.getD_cons_succ List.set_cons_zero List.set_cons_succ List.getElem?_cons_zero List.getElem?_cons_succ List.length_cons List.length_nil List.map_cons List.map_nil ints_length if_true if_false Bool.false_eq_true true_and and_true eq_self ne_eq not_false_eq_true not_true_eq_false beq_self_eq_true Nat.zero_add Nat.add_zero Nat.mul_one Nat.zero_mul Int.toNat_natCast List.toList_toArray List.all_cons List.all_nil AV.one Value.oneCell' Bool.and_true Bool.true_and forall_const true_implies false_implies implies_true Option.map_some Option.map_none Option.isSome_some Option.isSome_none imp_self rdP_flat rdP_row splice_one ints_set ints_get List.append_nil List.cons_append List.nil_append List.getElem?_toArray List.drop_zero ints_drop ints_take List.take_of_length_le splice_all ints_one Option.some.injEq Option.getD_some List.length_replicate zArr List.map_replicate rep_ints splice_intsR List.length_set List.length_append List.flatten_replicate_singleton rep_slice rep_string rep_bool rep_iface List.replicate_zero if_pos if_neg List.mapM_cons List.mapM_nil Option.pure_def Option.bind_eq_bind Option.bind_some Bool.true_eq_false Bool.not_false Bool.not_true get_concat set_concat
open Go.Proofs
set_option linter.unusedVariables false
set_option linter.unusedSimpArgs false
set_option maxRecDepth 100000
set_option maxHeartbeats 8000000
/-- A text's byte. -/
def bq (s : ByteArray) (i : Nat) : Int := ((s.data.toList.getD i 0).toNat : Int)
theorem bq_byte (s : ByteArray) (i : Nat) : 0 ≤ bq s i ∧ bq s i ≤ 255 := by
  unfold bq
  have := (s.data.toList.getD i 0).toNat_lt
  omega
def wb (t : ByteArray) (k : Nat) : Int := IntKind.u64.wrap ((t.data.toList.getD k 0).toNat : Int)
/-- Eight bytes as a number. -/
def wordP (t : ByteArray) : Int :=
  ibits .or .u64 (ibits .or .u64 (ibits .or .u64 (ibits .or .u64 (ibits .or .u64 (ibits .or .u64 (ibits .or .u64 (wb t 0) (shlI .u64 (wb t 1) 8)) (shlI .u64 (wb t 2) 16)) (shlI .u64 (wb t 3) 24)) (shlI .u64 (wb t 4) 32)) (shlI .u64 (wb t 5) 40)) (shlI .u64 (wb t 6) 48)) (shlI .u64 (wb t 7) 56)
theorem word_p (t : ByteArray) (h : 8 ≤ t.size) : PCall Tryz.prog glob 109 [.v (.string t)] (.v (.int .u64 (wordP t))) := by
  refine PCall.of ctx.nr nrs (NR.v _) ?_
  refine lcall109 (by simp) 0 (Nat.le_refl _) ?_
  unfold lc109
  refine I1 tt ⟨?_⟩
  refine G1 F4 tt tt tt tt ⟨?_⟩
  refine R1 tt ⟨?_⟩
  exact end0 (NR.v _) rfl
/-- The rest behind so many bytes. -/
abbrev rst (t : ByteArray) (n : Nat) : ByteArray := t.extract n t.size
theorem rst_size (t : ByteArray) (n : Nat) : (rst t n).size = t.size - n := by simp
def c8 (t : ByteArray) : Bool := ibits .and .u64 (wordP t) 9259542123273814144 == 0
def c16 (t : ByteArray) : Bool := ibits .and .u64 (ibits .or .u64 (wordP t) (wordP (rst t 8))) 9259542123273814144 == 0
def c32 (t : ByteArray) : Bool := ibits .and .u64 (ibits .or .u64 (ibits .or .u64 (wordP t) (wordP (rst t 8))) (ibits .or .u64 (wordP (rst t 16)) (wordP (rst t 24)))) 9259542123273814144 == 0
def skipL : Nat → ByteArray → ByteArray
  | 0, t => t
  | k + 1, t => if 32 < t.size ∧ c32 t = true then skipL k (rst t 32) else t
def skipB (t : ByteArray) : ByteArray := if 16 < t.size ∧ c16 t = true then skipL t.size (rst t 16) else t
def skipA (t : ByteArray) : ByteArray := if 8 < t.size ∧ c8 t = true then skipB (rst t 8) else t
theorem skipL_size : ∀ (k : Nat) (t : ByteArray), (skipL k t).size ≤ t.size
  | 0, t => Nat.le_refl _
  | k + 1, t => by
    unfold skipL
    split
    · have := skipL_size k (rst t 32)
      rw [rst_size] at this
      omega
    · exact Nat.le_refl _
theorem skipA_size (t : ByteArray) : (skipA t).size ≤ t.size := by
  unfold skipA
  split
  · unfold skipB
    have h := rst_size t 8
    split
    · have := skipL_size (rst t 8).size (rst (rst t 8) 16)
      have h2 := rst_size (rst t 8) 16
      omega
    · omega
  · exact Nat.le_refl _
/-- What the first byte tells: how many there are, and between which the second one lies. -/
def fstB (t : ByteArray) : Int := lay_unicode_utf8_first.getD (bq t 0).toNat 0
def cntB (t : ByteArray) : Int := IntKind.i64.wrap (ibits .and .u8 (fstB t) 7)
def loB (t : ByteArray) : Int := lay_unicode_utf8_acceptRanges.getD ((fstB t).toNat / 16 * 2) 0
def hiB (t : ByteArray) : Int := lay_unicode_utf8_acceptRanges.getD ((fstB t).toNat / 16 * 2 + 1) 0
def stepN (t : ByteArray) : Option Nat :=
  if cntB t = 2 then (if t.size < 2 ∨ bq t 1 < loB t ∨ hiB t < bq t 1 then none else some 2)
  else if cntB t = 3 then (if t.size < 3 ∨ bq t 1 < loB t ∨ hiB t < bq t 1 ∨ bq t 2 < 128 ∨ 191 < bq t 2 then none else some 3)
  else if cntB t = 4 then (if t.size < 4 ∨ bq t 1 < loB t ∨ hiB t < bq t 1 ∨ bq t 2 < 128 ∨ 191 < bq t 2 ∨ bq t 3 < 128 ∨ 191 < bq t 3 then none else some 4)
  else none
def vsF : Nat → ByteArray → Bool
  | 0, _ => true
  | k + 1, t => if t.size = 0 then true else if bq t 0 < 128 then vsF k (skipA (rst t 1)) else match stepN t with
    | none => false
    | some n => vsF k (rst t n)
/-- Is a text UTF-8? -/
def validP (s : ByteArray) : Bool := vsF (s.size + 1) s
theorem vsF_end (k : Nat) (t : ByteArray) (h : t.size = 0) : vsF (k + 1) t = true := by
  unfold vsF
  rw [if_pos h]
theorem vsF_ascii (k : Nat) (t : ByteArray) (h : 0 < t.size) (h2 : bq t 0 < 128) : vsF (k + 1) t = vsF k (skipA (rst t 1)) := by
  rw [vsF, if_neg (by omega), if_pos h2]
theorem vsF_bad (k : Nat) (t : ByteArray) (h : 0 < t.size) (h2 : ¬ bq t 0 < 128) (h3 : stepN t = none) : vsF (k + 1) t = false := by
  rw [vsF, if_neg (by omega), if_neg h2, h3]
theorem vsF_some (k n : Nat) (t : ByteArray) (h : 0 < t.size) (h2 : ¬ bq t 0 < 128) (h3 : stepN t = some n) : vsF (k + 1) t = vsF k (rst t n) := by
  rw [vsF, if_neg (by omega), if_neg h2, h3]
theorem first_in : ∀ b : Nat, b < 256 → 0 ≤ lay_unicode_utf8_first.getD b 0 ∧ lay_unicode_utf8_first.getD b 0 ≤ 255 := by decide +kernel
theorem acc_in : ∀ p : Nat, p < 16 → (lay_unicode_utf8_acceptRanges.drop (p * 2)).take 2 = [lay_unicode_utf8_acceptRanges.getD (p * 2) 0, lay_unicode_utf8_acceptRanges.getD (p * 2 + 1) 0] := by decide +kernel
theorem valid_p (s : ByteArray) (hs : s.size ≤ 9223372036854775807) : PCall Tryz.prog glob 88 [.v (.string s)] (.v (.bool (validP s))) := by
  obtain ⟨V, hV⟩ : ∃ V, validP s = V := ⟨_, rfl⟩
  rw [hV]
  refine PCall.of ctx.nr nrs (NR.v _) ?_
  refine lcall88 (by simp) 0 (Nat.le_refl _) ?_
  unfold lc88
  refine I1 tt ⟨?_⟩
  refine G1 F4 tt tt tt tt ⟨?_⟩
  refine lavc_loopM ms88_0 (fun m (x : Nat × ByteArray × AHeap) => m = x.1 ∧ x.2.1.size < x.1 ∧ x.2.1.size ≤ 9223372036854775807 ∧ vsF x.1 x.2.1 = V) (fun x => [(0, .v (.string x.2.1))]) (fun x => x.2.2) (s.size + 1) (s.size + 1, s, []) ⟨rfl, Nat.lt_succ_self _, hs, hV⟩ ?_ rfl ?_
  · try unfold ms88_0
    exact A0 tt
  rintro m ⟨k, t, gg⟩ ⟨hmk, hlt, hts, hinv⟩
  simp only at hmk hlt hts hinv ⊢
  try unfold ms88_0
  refine M1 tt ⟨?_⟩
  obtain ⟨k, rfl⟩ : ∃ k', k = k' + 1 := ⟨k - 1, by omega⟩
  refine G1 F1 tt tt tt tt ⟨?_⟩
  refine cnd rfl (fun hc => ?_) (fun hc => ?_)
  · have hb := bq_byte t 0
    have ht0 : 0 < t.size := by omega
    obtain ⟨b, hb0⟩ : ∃ b, bq t 0 = b := ⟨_, rfl⟩
    have hsb : ((t.data.toList.getD 0 0).toNat : Int) = b := hb0
    rw [hb0] at hb
    by_cases h128 : b < 128
    · have q1 : decide (b < 128) = true := by rw [decide_eq_true_eq]; omega
      rw [vsF_ascii k t ht0 (by rw [hb0]; exact h128)] at hinv
      have hus := rst_size t 1
      obtain ⟨u, hu⟩ : ∃ u, t.extract 1 t.size = u := ⟨_, rfl⟩
      have hu' : rst t 1 = u := hu
      rw [hu'] at hus hinv
      have hsk := skipA_size u
      have next : ∀ v, skipA u = v → v.size < k ∧ v.size ≤ 9223372036854775807 ∧ vsF k v = V := fun v hv => by
        rw [hv] at hsk hinv
        exact ⟨by omega, by omega, hinv⟩
      have w8 := fun h => word_p u h
      by_cases g8 : 8 < u.size
      · have d8 : decide ((u.size : Int) > 8) = true := by rw [decide_eq_true_eq]; omega
        have w8 := w8 (by omega)
        by_cases k8 : c8 u = true
        · have e8 : (ibits .and .u64 (wordP u) 9259542123273814144 == 0) = true := k8
          have hu2s := rst_size u 8
          obtain ⟨u2, hu2⟩ : ∃ u2, u.extract 8 u.size = u2 := ⟨_, rfl⟩
          have hu2' : rst u 8 = u2 := hu2
          rw [hu2'] at hu2s
          have hA : skipA u = skipB u2 := by unfold skipA; rw [if_pos ⟨g8, k8⟩, hu2']
          by_cases g16 : 16 < u2.size
          · have d16 : decide ((u2.size : Int) > 16) = true := by rw [decide_eq_true_eq]; omega
            have w16 := word_p u2 (by omega)
            have hu3s := rst_size u2 8
            have w17 := word_p (u2.extract 8 u2.size) (by rw [hu3s]; omega)
            by_cases k16 : c16 u2 = true
            · have e16 : (ibits .and .u64 (ibits .or .u64 (wordP u2) (wordP (u2.extract 8 u2.size))) 9259542123273814144 == 0) = true := k16
              have hB : skipB u2 = skipL u2.size (rst u2 16) := by unfold skipB; rw [if_pos ⟨g16, k16⟩]
              have hu4s := rst_size u2 16
              obtain ⟨u4, hu4⟩ : ∃ x, u2.extract 16 u2.size = x := ⟨_, rfl⟩
              have hu4' : rst u2 16 = u4 := hu4
              rw [hu4'] at hu4s hB
              refine G1 F4 (an hsb (an q1 (an hu (an d8 (an e8 (an hu2 (an d16 (an e16 (an hu4 tt))))))))) (an w8.go (an w16.go (an w17.go tt))) tt tt ⟨?_⟩
              refine lavc_loopM ms88_1 (fun m (x : Nat × ByteArray) => m = x.1 ∧ x.2.size ≤ 32 * x.1 ∧ x.2.size ≤ 9223372036854775807 ∧ skipL x.1 x.2 = skipA u) (fun x => [(0, .v (.string x.2))]) (fun x => gg) u2.size (u2.size, u4) ⟨rfl, by show u4.size ≤ 32 * u2.size; omega, by show u4.size ≤ 9223372036854775807; omega, by rw [hA, hB]⟩ ?_ rfl ?_
              · try unfold ms88_1
                exact A0 tt
              rintro m1 ⟨j, y⟩ ⟨hmj, hy1, hy2, hy3⟩
              simp only at hmj hy1 hy2 hy3 ⊢
              try unfold ms88_1
              refine M1 tt ⟨?_⟩
              by_cases g32 : 32 < y.size
              · have d32 : decide ((y.size : Int) > 32) = true := by rw [decide_eq_true_eq]; omega
                obtain ⟨j, rfl⟩ : ∃ j', j = j' + 1 := ⟨j - 1, by omega⟩
                have p0 := word_p y (by omega)
                have p1 := word_p (y.extract 8 y.size) (by have h := rst_size y 8; exact (by omega : 8 ≤ (rst y 8).size))
                have p2 := word_p (y.extract 16 y.size) (by have h := rst_size y 16; exact (by omega : 8 ≤ (rst y 16).size))
                have p3 := word_p (y.extract 24 y.size) (by have h := rst_size y 24; exact (by omega : 8 ≤ (rst y 24).size))
                by_cases k32 : c32 y = true
                · have e32 : (ibits .and .u64 (ibits .or .u64 (ibits .or .u64 (wordP y) (wordP (y.extract 8 y.size))) (ibits .or .u64 (wordP (y.extract 16 y.size)) (wordP (y.extract 24 y.size)))) 9259542123273814144 == 0) = true := k32
                  rw [skipL, if_pos ⟨g32, k32⟩] at hy3
                  have hzs := rst_size y 32
                  refine G1 F4 (an d32 (an e32 tt)) (an p0.go (an p1.go (an p2.go (an p3.go tt)))) tt tt ⟨?_⟩
                  refine ⟨j, (j, rst y 32), by omega, ⟨rfl, by show (rst y 32).size ≤ 32 * j; omega, by show (rst y 32).size ≤ 9223372036854775807; omega, hy3⟩, ?_, (by first | rfl | trivial)⟩
                  try unfold ms88_1
                  exact A0 tt
                · have e32 : (ibits .and .u64 (ibits .or .u64 (ibits .or .u64 (wordP y) (wordP (y.extract 8 y.size))) (ibits .or .u64 (wordP (y.extract 16 y.size)) (wordP (y.extract 24 y.size)))) 9259542123273814144 == 0) = false := by simpa [c32] using k32
                  rw [skipL, if_neg (by intro h; exact k32 h.2)] at hy3
                  refine G1 F4 (an d32 (an e32 tt)) (an p0.go (an p1.go (an p2.go (an p3.go tt)))) tt tt ⟨?_⟩
                  obtain ⟨n1, n2, n3⟩ := next y hy3.symm
                  refine ⟨k, (k, y, gg), by omega, ⟨rfl, n1, n2, n3⟩, ?_, rfl⟩
                  try unfold ms88_0
                  exact A0 tt
              · have d32 : decide ((y.size : Int) > 32) = false := by rw [decide_eq_false_iff_not]; omega
                have hy4 : y = skipA u := by
                  rw [← hy3]
                  cases j with
                  | zero => rfl
                  | succ j => rw [skipL, if_neg (by intro h; exact g32 h.1)]
                refine G1 F4 (an d32 tt) tt tt tt ⟨?_⟩
                obtain ⟨n1, n2, n3⟩ := next y hy4.symm
                refine ⟨k, (k, y, gg), by omega, ⟨rfl, n1, n2, n3⟩, ?_, rfl⟩
                try unfold ms88_0
                exact A0 tt
            · have e16 : (ibits .and .u64 (ibits .or .u64 (wordP u2) (wordP (u2.extract 8 u2.size))) 9259542123273814144 == 0) = false := by simpa [c16] using k16
              have hB : skipB u2 = u2 := by unfold skipB; rw [if_neg (by intro h; exact k16 h.2)]
              refine G1 F4 (an hsb (an q1 (an hu (an d8 (an e8 (an hu2 (an d16 (an e16 tt)))))))) (an w8.go (an w16.go (an w17.go tt))) tt tt ⟨?_⟩
              obtain ⟨n1, n2, n3⟩ := next u2 (hA.trans hB)
              refine ⟨k, (k, u2, gg), by omega, ⟨rfl, n1, n2, n3⟩, ?_, rfl⟩
              try unfold ms88_0
              exact A0 tt
          · have d16 : decide ((u2.size : Int) > 16) = false := by rw [decide_eq_false_iff_not]; omega
            have hB : skipB u2 = u2 := by unfold skipB; rw [if_neg (by intro h; exact g16 h.1)]
            refine G1 F4 (an hsb (an q1 (an hu (an d8 (an e8 (an hu2 (an d16 tt))))))) (an w8.go tt) tt tt ⟨?_⟩
            obtain ⟨n1, n2, n3⟩ := next u2 (hA.trans hB)
            refine ⟨k, (k, u2, gg), by omega, ⟨rfl, n1, n2, n3⟩, ?_, rfl⟩
            try unfold ms88_0
            exact A0 tt
        · have e8 : (ibits .and .u64 (wordP u) 9259542123273814144 == 0) = false := by simpa [c8] using k8
          have hA : skipA u = u := by unfold skipA; rw [if_neg (by intro h; exact k8 h.2)]
          refine G1 F4 (an hsb (an q1 (an hu (an d8 (an e8 tt))))) (an w8.go tt) tt tt ⟨?_⟩
          obtain ⟨n1, n2, n3⟩ := next u hA
          refine ⟨k, (k, u, gg), by omega, ⟨rfl, n1, n2, n3⟩, ?_, rfl⟩
          try unfold ms88_0
          exact A0 tt
      · have d8 : decide ((u.size : Int) > 8) = false := by rw [decide_eq_false_iff_not]; omega
        have hA : skipA u = u := by unfold skipA; rw [if_neg (by intro h; exact g8 h.1)]
        refine G1 F4 (an hsb (an q1 (an hu (an d8 tt)))) tt tt tt ⟨?_⟩
        obtain ⟨n1, n2, n3⟩ := next u hA
        refine ⟨k, (k, u, gg), by omega, ⟨rfl, n1, n2, n3⟩, ?_, rfl⟩
        try unfold ms88_0
        exact A0 tt
    · have q1 : decide (b < 128) = false := by rw [decide_eq_false_iff_not]; omega
      have hnb : ¬ bq t 0 < 128 := by rw [hb0]; exact h128
      have hfi := first_in b.toNat (by omega)
      obtain ⟨f, hf⟩ : ∃ f : Nat, lay_unicode_utf8_first.getD b.toNat 0 = (f : Int) := ⟨(lay_unicode_utf8_first.getD b.toNat 0).toNat, by omega⟩
      have hfst : fstB t = (f : Int) := by unfold fstB; rw [hb0, hf]
      rw [hf] at hfi
      have hlen : lay_unicode_utf8_first.length = 256 := by decide +kernel
      have hlen2 : lay_unicode_utf8_acceptRanges.length = 32 := rfl
      obtain ⟨p, hp⟩ : ∃ p, f / 16 = p := ⟨_, rfl⟩
      have sh : shrI .u8 (f : Int) 4 = (p : Int) := by rw [shrI_le _ _ _ (by decide), ← hp]; rfl
      have hpl : p < 16 := by omega
      have hac := acc_in p hpl
      have hlo0 : loB t = lay_unicode_utf8_acceptRanges.getD (p * 2) 0 := by unfold loB; rw [hfst, ← hp]; rfl
      have hhi0 : hiB t = lay_unicode_utf8_acceptRanges.getD (p * 2 + 1) 0 := by unfold hiB; rw [hfst, ← hp]; rfl
      obtain ⟨lo, hlo⟩ : ∃ v, lay_unicode_utf8_acceptRanges.getD (p * 2) 0 = v := ⟨_, rfl⟩
      obtain ⟨hi, hhi⟩ : ∃ v, lay_unicode_utf8_acceptRanges.getD (p * 2 + 1) 0 = v := ⟨_, rfl⟩
      rw [hlo] at hlo0
      rw [hhi] at hhi0
      rw [hlo, hhi] at hac
      obtain ⟨n, hn⟩ : ∃ n, IntKind.i64.wrap (ibits .and .u8 (f : Int) 7) = n := ⟨_, rfl⟩
      have hcn : cntB t = n := by unfold cntB; rw [hfst, hn]
      obtain ⟨b1, hb1⟩ : ∃ v, bq t 1 = v := ⟨_, rfl⟩
      obtain ⟨b2, hb2⟩ : ∃ v, bq t 2 = v := ⟨_, rfl⟩
      obtain ⟨b3, hb3⟩ : ∃ v, bq t 3 = v := ⟨_, rfl⟩
      have hs1 : ((t.data.toList.getD 1 0).toNat : Int) = b1 := hb1
      have hs2 : ((t.data.toList.getD 2 0).toNat : Int) = b2 := hb2
      have hs3 : ((t.data.toList.getD 3 0).toNat : Int) = b3 := hb3
      have bad : stepN t = none → V = false := fun h => by rw [← hinv, vsF_bad k t ht0 hnb h]
      have good : ∀ q, 0 < q → stepN t = some q → (rst t q).size < k ∧ (rst t q).size ≤ 9223372036854775807 ∧ vsF k (rst t q) = V := fun q hq h => by
        rw [vsF_some k q t ht0 hnb h] at hinv
        have := rst_size t q
        exact ⟨by omega, by omega, hinv⟩
      repeat (first
        | (with_reducible refine lops_step fun K hK => ?_; simp (disch := first | exact dch | fail) only [go_sem, Nat.reduceAdd, Nat.reduceSub, reduceIte, Nat.reduceEqDiff, Int.reduceToNat, Int.reduceBEq, Int.reduceBNe, hsb, q1, hlen, hf, sh, hlen2, hac, hn, get_concat, set_concat]; (try (first | (refine And.intro (fun _ => ?_) (fun h => absurd h (by decide))) | (refine And.intro (fun h => absurd h (by decide)) (fun _ => ?_)))); (repeat (with_reducible refine And.intro acl ?_)); (first | (refine hK _ _ ?_) | (refine ⟨_, rfl, hK _ _ ?_⟩) | (refine Or.inl (hK _ _ ?_))); clear hK K)
        | (with_reducible refine lops_nil ?_)
        | (with_reducible first | refine lavc_reg ?_ | refine lavc_seq ?_ | refine lavc_block ?_ | refine lavc_skip ?_ | refine lavc_exit ?_ | refine lavc_ret ?_ | refine lavcR_round ?_)
        | (refine lavc_cond rfl (fun _ => ?_) (fun hc => absurd hc (by decide)))
        | (refine lavc_cond rfl (fun hc => absurd hc (by decide)) (fun _ => ?_))
        | (simp only [↓reduceIte, Nat.reduceEqDiff, reduceCtorEq]))
      refine lavc_cond rfl (fun hc => ?_) (fun hc => ?_)
      · have n2 : n = 2 := by simpa using hc
        by_cases s0 : t.size < 2
        · have d0 : decide ((t.size : Int) < 2) = true := by rw [decide_eq_true_eq]; omega
          have hst : stepN t = none := by unfold stepN; rw [hcn, if_pos n2, hlo0, hhi0, hb1, if_pos (by omega)]
          rw [bad hst]
          refine G1 F4 (an d0 (an hs1 (an hs2 (an hs3 tt)))) tt tt tt ⟨?_⟩
          refine R1 tt ⟨?_⟩
          exact end0 (NR.v _) rfl
        have d0 : decide ((t.size : Int) < 2) = false := by rw [decide_eq_false_iff_not]; omega
        by_cases s1 : b1 < lo
        · have d1 : decide (b1 < lo) = true := by rw [decide_eq_true_eq]; omega
          have hst : stepN t = none := by unfold stepN; rw [hcn, if_pos n2, hlo0, hhi0, hb1, if_pos (by omega)]
          rw [bad hst]
          refine G1 F4 (an d0 (an d1 (an hs1 (an hs2 (an hs3 tt))))) tt tt tt ⟨?_⟩
          refine R1 tt ⟨?_⟩
          exact end0 (NR.v _) rfl
        have d1 : decide (b1 < lo) = false := by rw [decide_eq_false_iff_not]; omega
        by_cases s2 : hi < b1
        · have d2 : decide (hi < b1) = true := by rw [decide_eq_true_eq]; omega
          have hst : stepN t = none := by unfold stepN; rw [hcn, if_pos n2, hlo0, hhi0, hb1, if_pos (by omega)]
          rw [bad hst]
          refine G1 F4 (an d0 (an d1 (an d2 (an hs1 (an hs2 (an hs3 tt)))))) tt tt tt ⟨?_⟩
          refine R1 tt ⟨?_⟩
          exact end0 (NR.v _) rfl
        have d2 : decide (hi < b1) = false := by rw [decide_eq_false_iff_not]; omega
        have hst : stepN t = some 2 := by unfold stepN; rw [hcn, if_pos n2, hlo0, hhi0, hb1, if_neg (by omega)]
        obtain ⟨m1, m2, m3⟩ := good 2 (by decide) hst
        refine G1 F4 (an d0 (an d1 (an d2 (an hs1 (an hs2 (an hs3 tt)))))) tt tt tt ⟨?_⟩
        refine ⟨k, (k, rst t 2, gg ++ [⟨ints .u8 [lo, hi], 0, true, 144⟩]), by omega, ⟨rfl, m1, m2, m3⟩, ?_, rfl⟩
        try unfold ms88_0
        exact A0 tt
      have n2 : n ≠ 2 := by simpa using hc
      refine G1 F4 (an hs1 (an hs2 (an hs3 tt))) tt tt tt ⟨?_⟩
      refine lavc_cond rfl (fun hc => ?_) (fun hc => ?_)
      · have n3 : n = 3 := by simpa using hc
        by_cases s0 : t.size < 3
        · have d0 : decide ((t.size : Int) < 3) = true := by rw [decide_eq_true_eq]; omega
          have hst : stepN t = none := by unfold stepN; rw [hcn, if_neg n2, if_pos n3, hlo0, hhi0, hb1, hb2, if_pos (by omega)]
          rw [bad hst]
          refine G1 F4 (an d0 (an hs1 (an hs2 (an hs3 tt)))) tt tt tt ⟨?_⟩
          refine R1 tt ⟨?_⟩
          exact end0 (NR.v _) rfl
        have d0 : decide ((t.size : Int) < 3) = false := by rw [decide_eq_false_iff_not]; omega
        by_cases s1 : b1 < lo
        · have d1 : decide (b1 < lo) = true := by rw [decide_eq_true_eq]; omega
          have hst : stepN t = none := by unfold stepN; rw [hcn, if_neg n2, if_pos n3, hlo0, hhi0, hb1, hb2, if_pos (by omega)]
          rw [bad hst]
          refine G1 F4 (an d0 (an d1 (an hs1 (an hs2 (an hs3 tt))))) tt tt tt ⟨?_⟩
          refine R1 tt ⟨?_⟩
          exact end0 (NR.v _) rfl
        have d1 : decide (b1 < lo) = false := by rw [decide_eq_false_iff_not]; omega
        by_cases s2 : hi < b1
        · have d2 : decide (hi < b1) = true := by rw [decide_eq_true_eq]; omega
          have hst : stepN t = none := by unfold stepN; rw [hcn, if_neg n2, if_pos n3, hlo0, hhi0, hb1, hb2, if_pos (by omega)]
          rw [bad hst]
          refine G1 F4 (an d0 (an d1 (an d2 (an hs1 (an hs2 (an hs3 tt)))))) tt tt tt ⟨?_⟩
          refine R1 tt ⟨?_⟩
          exact end0 (NR.v _) rfl
        have d2 : decide (hi < b1) = false := by rw [decide_eq_false_iff_not]; omega
        by_cases s3 : b2 < 128
        · have d3 : decide (b2 < 128) = true := by rw [decide_eq_true_eq]; omega
          have hst : stepN t = none := by unfold stepN; rw [hcn, if_neg n2, if_pos n3, hlo0, hhi0, hb1, hb2, if_pos (by omega)]
          rw [bad hst]
          refine G1 F4 (an d0 (an d1 (an d2 (an d3 (an hs1 (an hs2 (an hs3 tt))))))) tt tt tt ⟨?_⟩
          refine R1 tt ⟨?_⟩
          exact end0 (NR.v _) rfl
        have d3 : decide (b2 < 128) = false := by rw [decide_eq_false_iff_not]; omega
        by_cases s4 : 191 < b2
        · have d4 : decide (191 < b2) = true := by rw [decide_eq_true_eq]; omega
          have hst : stepN t = none := by unfold stepN; rw [hcn, if_neg n2, if_pos n3, hlo0, hhi0, hb1, hb2, if_pos (by omega)]
          rw [bad hst]
          refine G1 F4 (an d0 (an d1 (an d2 (an d3 (an d4 (an hs1 (an hs2 (an hs3 tt)))))))) tt tt tt ⟨?_⟩
          refine R1 tt ⟨?_⟩
          exact end0 (NR.v _) rfl
        have d4 : decide (191 < b2) = false := by rw [decide_eq_false_iff_not]; omega
        have hst : stepN t = some 3 := by unfold stepN; rw [hcn, if_neg n2, if_pos n3, hlo0, hhi0, hb1, hb2, if_neg (by omega)]
        obtain ⟨m1, m2, m3⟩ := good 3 (by decide) hst
        refine G1 F4 (an d0 (an d1 (an d2 (an d3 (an d4 (an hs1 (an hs2 (an hs3 tt)))))))) tt tt tt ⟨?_⟩
        refine ⟨k, (k, rst t 3, gg ++ [⟨ints .u8 [lo, hi], 0, true, 144⟩]), by omega, ⟨rfl, m1, m2, m3⟩, ?_, rfl⟩
        try unfold ms88_0
        exact A0 tt
      have n3 : n ≠ 3 := by simpa using hc
      refine G1 F4 (an hs1 (an hs2 (an hs3 tt))) tt tt tt ⟨?_⟩
      refine lavc_cond rfl (fun hc => ?_) (fun hc => ?_)
      · have n4 : n = 4 := by simpa using hc
        by_cases s0 : t.size < 4
        · have d0 : decide ((t.size : Int) < 4) = true := by rw [decide_eq_true_eq]; omega
          have hst : stepN t = none := by unfold stepN; rw [hcn, if_neg n2, if_neg n3, if_pos n4, hlo0, hhi0, hb1, hb2, hb3, if_pos (by omega)]
          rw [bad hst]
          refine G1 F4 (an d0 (an hs1 (an hs2 (an hs3 tt)))) tt tt tt ⟨?_⟩
          refine R1 tt ⟨?_⟩
          exact end0 (NR.v _) rfl
        have d0 : decide ((t.size : Int) < 4) = false := by rw [decide_eq_false_iff_not]; omega
        by_cases s1 : b1 < lo
        · have d1 : decide (b1 < lo) = true := by rw [decide_eq_true_eq]; omega
          have hst : stepN t = none := by unfold stepN; rw [hcn, if_neg n2, if_neg n3, if_pos n4, hlo0, hhi0, hb1, hb2, hb3, if_pos (by omega)]
          rw [bad hst]
          refine G1 F4 (an d0 (an d1 (an hs1 (an hs2 (an hs3 tt))))) tt tt tt ⟨?_⟩
          refine R1 tt ⟨?_⟩
          exact end0 (NR.v _) rfl
        have d1 : decide (b1 < lo) = false := by rw [decide_eq_false_iff_not]; omega
        by_cases s2 : hi < b1
        · have d2 : decide (hi < b1) = true := by rw [decide_eq_true_eq]; omega
          have hst : stepN t = none := by unfold stepN; rw [hcn, if_neg n2, if_neg n3, if_pos n4, hlo0, hhi0, hb1, hb2, hb3, if_pos (by omega)]
          rw [bad hst]
          refine G1 F4 (an d0 (an d1 (an d2 (an hs1 (an hs2 (an hs3 tt)))))) tt tt tt ⟨?_⟩
          refine R1 tt ⟨?_⟩
          exact end0 (NR.v _) rfl
        have d2 : decide (hi < b1) = false := by rw [decide_eq_false_iff_not]; omega
        by_cases s3 : b2 < 128
        · have d3 : decide (b2 < 128) = true := by rw [decide_eq_true_eq]; omega
          have hst : stepN t = none := by unfold stepN; rw [hcn, if_neg n2, if_neg n3, if_pos n4, hlo0, hhi0, hb1, hb2, hb3, if_pos (by omega)]
          rw [bad hst]
          refine G1 F4 (an d0 (an d1 (an d2 (an d3 (an hs1 (an hs2 (an hs3 tt))))))) tt tt tt ⟨?_⟩
          refine R1 tt ⟨?_⟩
          exact end0 (NR.v _) rfl
        have d3 : decide (b2 < 128) = false := by rw [decide_eq_false_iff_not]; omega
        by_cases s4 : 191 < b2
        · have d4 : decide (191 < b2) = true := by rw [decide_eq_true_eq]; omega
          have hst : stepN t = none := by unfold stepN; rw [hcn, if_neg n2, if_neg n3, if_pos n4, hlo0, hhi0, hb1, hb2, hb3, if_pos (by omega)]
          rw [bad hst]
          refine G1 F4 (an d0 (an d1 (an d2 (an d3 (an d4 (an hs1 (an hs2 (an hs3 tt)))))))) tt tt tt ⟨?_⟩
          refine R1 tt ⟨?_⟩
          exact end0 (NR.v _) rfl
        have d4 : decide (191 < b2) = false := by rw [decide_eq_false_iff_not]; omega
        by_cases s5 : b3 < 128
        · have d5 : decide (b3 < 128) = true := by rw [decide_eq_true_eq]; omega
          have hst : stepN t = none := by unfold stepN; rw [hcn, if_neg n2, if_neg n3, if_pos n4, hlo0, hhi0, hb1, hb2, hb3, if_pos (by omega)]
          rw [bad hst]
          refine G1 F4 (an d0 (an d1 (an d2 (an d3 (an d4 (an d5 (an hs1 (an hs2 (an hs3 tt))))))))) tt tt tt ⟨?_⟩
          refine R1 tt ⟨?_⟩
          exact end0 (NR.v _) rfl
        have d5 : decide (b3 < 128) = false := by rw [decide_eq_false_iff_not]; omega
        by_cases s6 : 191 < b3
        · have d6 : decide (191 < b3) = true := by rw [decide_eq_true_eq]; omega
          have hst : stepN t = none := by unfold stepN; rw [hcn, if_neg n2, if_neg n3, if_pos n4, hlo0, hhi0, hb1, hb2, hb3, if_pos (by omega)]
          rw [bad hst]
          refine G1 F4 (an d0 (an d1 (an d2 (an d3 (an d4 (an d5 (an d6 (an hs1 (an hs2 (an hs3 tt)))))))))) tt tt tt ⟨?_⟩
          refine R1 tt ⟨?_⟩
          exact end0 (NR.v _) rfl
        have d6 : decide (191 < b3) = false := by rw [decide_eq_false_iff_not]; omega
        have hst : stepN t = some 4 := by unfold stepN; rw [hcn, if_neg n2, if_neg n3, if_pos n4, hlo0, hhi0, hb1, hb2, hb3, if_neg (by omega)]
        obtain ⟨m1, m2, m3⟩ := good 4 (by decide) hst
        refine G1 F4 (an d0 (an d1 (an d2 (an d3 (an d4 (an d5 (an d6 (an hs1 (an hs2 (an hs3 tt)))))))))) tt tt tt ⟨?_⟩
        refine ⟨k, (k, rst t 4, gg ++ [⟨ints .u8 [lo, hi], 0, true, 144⟩]), by omega, ⟨rfl, m1, m2, m3⟩, ?_, rfl⟩
        try unfold ms88_0
        exact A0 tt
      have n4 : n ≠ 4 := by simpa using hc
      have hst : stepN t = none := by unfold stepN; rw [hcn, if_neg n2, if_neg n3, if_neg n4]
      rw [bad hst]
      refine G1 F4 (an hs1 (an hs2 (an hs3 tt))) tt tt tt ⟨?_⟩
      refine R1 tt ⟨?_⟩
      exact end0 (NR.v _) rfl
  · obtain rfl : V = true := by rw [← hinv, vsF_end k t (by omega)]
    refine G1 F4 tt tt tt tt ⟨?_⟩
    refine R1 tt ⟨?_⟩
    exact end0 (NR.v _) rfl
end Go.Abs.S
namespace Go.Abs
open Go.RowKit
set_option linter.unusedVariables false
set_option linter.unusedSimpArgs false
variable {P : Program} {G : Glob} {σ : Sig} {H : AHeap} {w : World}
/-- The range over a function in a code. -/
def rfOf : Code → Option (Operand × Array Tmp × Code × Code)
  | .rangeFunc g ps a b => some (g, ps, a, b)
  | .seq x y => (rfOf x).orElse fun _ => rfOf y
  | .cond _ x y => (rfOf x).orElse fun _ => rfOf y
  | .block _ c => rfOf c
  | .loop c => rfOf c
  | _ => none
theorem AR.monoC {σ : Sig} {w w' : World} (hc : ∀ B o v, w.cell? ⟨B, o, none⟩ = some v → w'.cell? ⟨B, o, none⟩ = some v) {x : AV} {u : Value} (h : AR σ w x u) : AR σ w' x u := by
  induction h with
  | any u => exact .any u
  | v x => exact .v x
  | ptr h => exact .ptr h
  | sl h hc hx hl => exact .sl h hc hx hl
  | sl0 A => exact .sl0 A
  | vptr B o u hr hm _ ih => exact .vptr B o u hr (fun j hj => hc _ _ _ (hm j hj)) ih
  | vsl B o cap' u hr hm _ hl hx ih => exact .vsl B o cap' u hr (fun j hj => hc _ _ _ (hm j hj)) ih hl hx
  | vsl0 A cap' hx => exact .vsl0 A cap' hx
  | agg us hl _ ih => exact .agg us hl ih
  | tup us hl _ ih => exact .tup us hl ih
  | fn us hl _ ih => exact .fn us hl ih
  | ifc _ ih => exact .ifc ih
  | ub b => exact .ub b
  | bsl0 => exact .bsl0
  | bsl h h0 hc hl => exact .bsl h h0 hc hl
  | usd0 p => exact .usd0 p
  | usd h => exact .usd h
  | bad0 => exact .bad0
  | bad h => exact .bad h
/-- Another object than cells comes up, or is turned. -/
theorem Rel.grow (r : Rel G σ H w) {w' : World} {row : Option Nat} (hg : w.grownBy w' row) (hr : ∀ k, row = some k → ∃ o : Obj, w.heap[k]? = some o ∧ o.isCells = false) : Rel G σ H w' ∧ ∀ x u, AR σ w x u → AR σ w' x u := by
  have hcell : ∀ (B : Nat) (C : Array Value) (T : TypeId) (fr : Nat × Nat), w.heap[B]? = some (Obj.cells C T fr) → w'.heap[B]? = some (Obj.cells C T fr) := fun B C T fr h => by
    refine (hg.block B (Array.getElem?_eq_some_iff.1 h).1 fun e => ?_).trans h
    obtain ⟨o, h1, h2⟩ := hr B e.symm
    rw [h] at h1
    cases h1
    cases h2
  have hc : ∀ B o v, w.cell? ⟨B, o, Option.none⟩ = some v → w'.cell? ⟨B, o, Option.none⟩ = some v := fun B o v h => by
    have e : w'.heap[B]? = w.heap[B]? := by
      cases hB : w.heap[B]? with
      | none => simp [World.cell?, hB] at h
      | some ob =>
        cases ob with
        | cells C T fr => exact hcell B C T fr hB
        | _ => simp [World.cell?, hB] at h
    rw [World.cell?_of_block (a := ⟨B, o, Option.none⟩) e]
    exact h
  have hm : ∀ x u, AR σ w x u → AR σ w' x u := fun x u h => h.monoC hc
  refine ⟨⟨fun b k l h1 h2 h3 => ?_, r.inj, r.apart, fun B hB => Nat.lt_of_lt_of_le (r.roLt B hB) hg.size, r.fresh, fun g => hm _ _ (r.glob g), r.base0⟩, hm⟩
  obtain ⟨C, fr, c1, c2, c3, c4, c5⟩ := r.blk b k l h1 h2 h3
  refine ⟨C, fr, hcell _ _ _ _ c1, c2, c3, c4, fun j hj => ?_⟩
  obtain ⟨v, e1, e2⟩ := c5 j hj
  exact ⟨v, e1, hm _ _ e2⟩
theorem Ext.grow {σ0 : Sig} {H0 : AHeap} {w0 : World} (x : Ext σ0 H0 w0 σ H w) {w' : World} {row : Option Nat} (hg : w.grownBy w' row) (hr : ∀ k, row = some k → w0.heap.size ≤ k) : Ext σ0 H0 w0 σ H w' :=
  ⟨hg.os.trans x.os, hg.tape.trans x.tape, hg.output.trans x.output, Nat.le_trans x.size hg.size, x.ρ, x.ro, fun B hB hn => (hg.block B (Nat.lt_of_lt_of_le hB x.size) fun e => by have := hr B e.symm; omega).trans (x.frame B hB hn), x.new, x.stay, x.roNew, x.len⟩
/-- What is no cells, stays. -/
theorem Ext.keeps {σ0 : Sig} {H0 : AHeap} {w0 : World} (r : Rel G σ0 H0 w0) (x : Ext σ0 H0 w0 σ H w) : KeepsOthers w0 w := ⟨x.size, fun k o hk ho => by
  refine (x.frame k (Array.getElem?_eq_some_iff.1 hk).1 fun ⟨b, kb, l, h1, h2, h3, e⟩ => ?_).trans hk
  obtain ⟨C, fr, c1, _⟩ := r.blk b kb l h1 h2 h3
  rw [e, hk] at c1
  cases c1
  cases ho⟩
theorem wpList_ndef {ops : Array Oper} {Q : Exit → Act → World → Prop} (hq : ∀ a' w', Q .normal a' w' → a'.defers = []) : ∀ {l : List Oper} {a : Act} {w : World}, wpList P ops (nrm Q) l a w → a.defers = []
  | [], a, w, h => hq _ _ h.2
  | o :: rest, a, w, h => by
    have hput : ∀ v w', wpList P ops (nrm Q) rest (a.put o.dst v) w' → a.defers = [] := fun v w' h => (Act.put_def _ _ _).symm.trans (wpList_ndef hq h)
    unfold wpList at h
    split at h
    · rcases h with h | h
      · unfold Oper.wp at h
        generalize (execOp a.eval o).run P w = r at *
        match r, h with
        | .ok (.value v) w', h => exact hput v w' h
        | .ok .skip w', h => exact hput _ w' h
        | .ok (.defer d) w', h =>
          have := (Act.put_def _ _ _).symm.trans (wpList_ndef hq h)
          cases this
        | .ok (.enter f args) w', h =>
          obtain ⟨e, w'', _, hR, _⟩ := h []
          cases e with
          | returned v => exact hput v w'' hR
          | panicked c => cases hR.1
          | outgrown => exact absurd hR nrm_out
        | .ok (.row row args) w', h =>
          obtain ⟨v, w'', hR, _⟩ := h default []
          exact hput v w'' hR
        | .halt (.panic v) w', h => cases h.1
      · exact absurd h.2 nrm_out
    · exact hput _ w h
/-- Operations that defer nothing do not look at what is deferred. -/
theorem wpList_def {ops : Array Oper} {Q : Exit → Act → World → Prop} (ds : List Deferred) (hq : ∀ a' w', Q .normal a' w' → a'.defers = []) : ∀ {l : List Oper} {a : Act} {w : World}, wpList P ops (nrm Q) l a w →
    wpList P ops (nrm fun e a' w' => ∃ a0, Q e a0 w' ∧ a' = { a0 with defers := ds }) l { a with defers := ds } w
  | [], a, w, h => ⟨rfl, a, h.2, rfl⟩
  | o :: rest, a, w, h => by
    have next : ∀ v w', wpList P ops (nrm Q) rest (a.put o.dst v) w' → wpList P ops (nrm fun e a' w' => ∃ a0, Q e a0 w' ∧ a' = { a0 with defers := ds }) rest (({ a with defers := ds } : Act).put o.dst v) w' := fun v w' h => by
      have hput : ({ a with defers := ds } : Act).put o.dst v = { a.put o.dst v with defers := ds } := by cases o.dst <;> rfl
      rw [hput]
      exact wpList_def ds hq h
    unfold wpList at h ⊢
    have hy : yielded ops ({ a with defers := ds } : Act).tmps = yielded ops a.tmps := rfl
    rw [hy]
    split
    · rename_i hw
      rw [if_pos hw] at h
      rcases h with h | h
      · left
        unfold Oper.wp at h ⊢
        have he : ({ a with defers := ds } : Act).eval = a.eval := rfl
        rw [he]
        generalize (execOp a.eval o).run P w = r at *
        match r, h with
        | .ok (.value v) w', h => exact next _ _ h
        | .ok .skip w', h => exact next _ _ h
        | .ok (.defer d) w', h =>
          have := (Act.put_def _ _ _).symm.trans (wpList_ndef hq h)
          cases this
        | .ok (.enter f args) w', h =>
          refine Calls.mono h fun e w'' he => ?_
          cases e with
          | returned v => exact next _ _ he
          | panicked c => cases he.1
          | outgrown => exact absurd he nrm_out
        | .ok (.row row args) w', h => exact Rows.mono h fun v w'' he => next _ _ he
        | .halt (.panic v) w', h => cases h.1
      · exact absurd h.2 nrm_out
    · rename_i hw
      rw [if_neg hw] at h
      exact next _ _ h
end Go.Abs
namespace Go.Abs.S
open Go.Proofs
set_option maxRecDepth 100000
def impCodF : FuncId → Bool := fun f => f == 48 || f == 50 || f == 74 || f == 100 || f == 116
/-- A round of escutcheon/page.Of. -/
def lcb28 : LCode := .block 1 (.seq (.reg []
  [o1 9 (Go.Op.move (Go.Operand.tmp 4)),
  o1 10 (Go.Op.call ⟨Go.Callee.builtin Go.Builtin.len, #[Go.Operand.tmp 9], #[26]⟩),
  o1 11 (Go.Op.binOp Go.BinOp.eql 3 (Go.Operand.tmp 10) (Go.Operand.const (Go.Value.int Go.IntKind.i64 2)) 3)]) (.cond (Go.Operand.tmp 11) (.regl [o1 19 (Go.Op.fieldAddr 29 (Go.Operand.tmp 3) 3),
  o1 20 (Go.Op.load 27 (Go.Operand.tmp 19)),
  o1 21 (Go.Op.move (Go.Operand.tmp 4)),
  o1 22 (Go.Op.indexAddr 26 (Go.Operand.tmp 21) (Go.Operand.const (Go.Value.int Go.IntKind.i64 1))),
  o1 23 (Go.Op.load 9 (Go.Operand.tmp 22)),
  o1 24 (Go.Op.build 29 #[(0, Go.Operand.const (Go.Value.int Go.IntKind.i64 4)), (1, Go.Operand.tmp 23)]),
  o1 25 (Go.Op.buildSlice 27 1 #[(0, Go.Operand.tmp 24)]),
  o1 27 (Go.Op.fieldAddr 29 (Go.Operand.tmp 3) 2)]
  [o1 12 (Go.Op.fieldAddr 29 (Go.Operand.tmp 3) 2),
  o1 13 (Go.Op.load 26 (Go.Operand.tmp 12)),
  o1 14 (Go.Op.move (Go.Operand.tmp 4)),
  o1 15 (Go.Op.indexAddr 26 (Go.Operand.tmp 14) (Go.Operand.const (Go.Value.int Go.IntKind.i64 0))),
  o1 16 (Go.Op.load 9 (Go.Operand.tmp 15)),
  o1 17 (Go.Op.buildSlice 26 1 #[(0, Go.Operand.tmp 16)])]
  [o1 18 (Go.Op.call ⟨Go.Callee.builtin Go.Builtin.append, #[Go.Operand.tmp 13, Go.Operand.tmp 17], #[26, 26]⟩),
  o1 26 (Go.Op.call ⟨Go.Callee.builtin Go.Builtin.append, #[Go.Operand.tmp 20, Go.Operand.tmp 25], #[27, 27]⟩)]
  [o3 (Go.Op.store 26 (Go.Operand.tmp 27) (Go.Operand.tmp 18)),
  o1 28 (Go.Op.fieldAddr 29 (Go.Operand.tmp 3) 3),
  o3 (Go.Op.store 27 (Go.Operand.tmp 28) (Go.Operand.tmp 26))]) (.skip)))
end Go.Abs.S
namespace Go.Abs.S
attribute [local go_sem] lguard aopO aop aenv toAV tput aLoad aStore vcells aBin aNilI aUn aAlloc aBox aBuild aBSlice afill aConv isIntT aappZ aCap aArr aMM aMake aSlice bnd3 bnd aFldAddr aFld aIdxAddr aIdx aExt aLen aCopy aEq0 bAV aUb aapp aappQ agh acont List.getD_cons_zero List.getD_cons_succ List.set_cons_zero List.set_cons_succ List.getElem?_cons_zero List.getElem?_cons_succ List.length_cons List.length_nil List.map_cons List.map_nil ints_length if_true if_false Bool.false_eq_true true_and and_true eq_self ne_eq not_false_eq_true not_true_eq_false beq_self_eq_true Nat.zero_add Nat.add_zero Nat.mul_one Nat.zero_mul Int.toNat_natCast List.toList_toArray List.all_cons List.all_nil AV.one Value.oneCell' Bool.and_true Bool.true_and forall_const true_implies false_implies implies_true Option.map_some Option.map_none Option.isSome_some Option.isSome_none imp_self rdP_flat rdP_row splice_one ints_set ints_get List.append_nil List.cons_append List.nil_append List.getElem?_toArray List.drop_zero ints_drop ints_take List.take_of_length_le splice_all ints_one Option.some.injEq Option.getD_some List.length_replicate zArr List.map_replicate rep_ints splice_intsR List.length_set List.length_append List.flatten_replicate_singleton rep_slice rep_string rep_bool rep_iface List.replicate_zero if_pos if_neg List.mapM_cons List.mapM_nil Option.pure_def Option.bind_eq_bind Option.bind_some Bool.true_eq_false Bool.not_false Bool.not_true get_concat set_concat
open Go.Proofs
set_option linter.unusedVariables false
set_option linter.unusedSimpArgs false
set_option maxRecDepth 100000
set_option maxHeartbeats 4000000
abbrev stA (s : ByteArray) : AV := .v (.string s)
abbrev nlA : AV := .v (.slice none 0 0)
abbrev ivC (n : Int) : AV := .v (.int .i64 n)
/-- Values that are texts. -/
def valT (s : ByteArray) : List AV := [ivC 4, stA s, nlA, nlA]
def vals (X : List ByteArray) : List AV := X.flatMap valT
theorem vals_length (X : List ByteArray) : (vals X).length = X.length * 4 := by
  induction X with
  | nil => rfl
  | cons a X ih =>
    have : vals (a :: X) = valT a ++ vals X := rfl
    rw [this, List.length_append, ih]
    simp [valT]
    omega
abbrev zeroV : Blk := ⟨[ivC 0, stA ⟨#[]⟩, nlA, nlA], 0, true, 29⟩
/-- Memory while a page is made. -/
def HP (N X : List ByteArray) : AHeap := if N = [] then [zeroV, ⟨[ivC 6, stA ⟨#[]⟩, nlA, nlA], 0, true, 29⟩]
  else [zeroV, ⟨[ivC 6, stA ⟨#[]⟩, .sl 2 (N.length - 1) 0 N.length N.length 1 false, .sl 3 (N.length - 1) 0 N.length N.length 4 false], 0, true, 29⟩, ⟨strs N, N.length - 1, true, 9⟩, ⟨vals X, N.length - 1, true, 29⟩]
def tB (p : AV) : List AV := [.any, .any, .any, .ptr 1 0 0, p] ++ List.replicate 25 .any
theorem round0 (a b : ByteArray) (c : Option Nat) : lavc Tryz.prog glob lcb28 (tB (.vsl 2 (strs [a, b]) c)) (HP [] []) fun e t H => e = .normal ∧ H = HP [a] [b] := by
  unfold tB HP strs
  simp only [List.map_cons, List.map_nil, if_true, List.replicate_succ, List.replicate_zero, List.cons_append, List.nil_append]
  unfold lcb28
  refine I1 tt ⟨?_⟩
  refine G1 F4 tt tt tt tt ⟨?_⟩
  refine lavc_lateq [.ptr 1 0 3, nlA, .vsl 2 [stA a, stA b] c, .vptr [stA a, stA b] 1, stA b, .agg [ivC 4, stA b, nlA, nlA], .vsl 1 [ivC 4, stA b, nlA, nlA] (some 1), .ptr 1 0 2] ?_ ?_ <;> simp only [lputs, o1_d, o2_d, o3_d, o4_d, tput, List.set_cons_succ, List.set_cons_zero]
  · (simp only [lfreesAt]; repeat (first | exact trivial | (refine And.intro (by unfold lfreeAt; unfold aopO; simp (disch := first | exact dch | fail) only [go_sem, Nat.reduceAdd, Nat.reduceSub, reduceIte, Nat.reduceEqDiff, Int.reduceToNat, Int.reduceBEq, Int.reduceBNe]; (repeat (with_reducible refine And.intro acl ?_)); first | exact ⟨rfl, fun d h => by cases h; rfl⟩ | exact fun d h => by cases h; rfl | exact Or.inr ⟨rfl, fun d h => by cases h; rfl⟩ | exact Or.inr (fun d h => by cases h; rfl) | exact Or.inl ⟨rfl, fun d h => by cases h; rfl⟩) ?_)))
  · refine G1 F3 tt tt tt tt ⟨?_⟩
    repeat (first
      | ((with_reducible refine lopsF_step ?_ fun K hK => ?_); (case _ => (simp only [lfreesAt]; repeat (first | exact trivial | (refine And.intro (by unfold lfreeAt; unfold aopO; simp (disch := first | exact dch | fail) only [go_sem, Nat.reduceAdd, Nat.reduceSub, reduceIte, Nat.reduceEqDiff, Int.reduceToNat, Int.reduceBEq, Int.reduceBNe]; (repeat (with_reducible refine And.intro acl ?_)); first | exact ⟨rfl, fun d h => by cases h; rfl⟩ | exact fun d h => by cases h; rfl | exact Or.inr ⟨rfl, fun d h => by cases h; rfl⟩ | exact Or.inr (fun d h => by cases h; rfl) | exact Or.inl ⟨rfl, fun d h => by cases h; rfl⟩) ?_)))); with_reducible skip; simp (disch := first | exact dch | fail) only [go_sem, Nat.reduceAdd, Nat.reduceSub, reduceIte, Nat.reduceEqDiff, Int.reduceToNat, Int.reduceBEq, Int.reduceBNe]; (repeat (with_reducible refine And.intro acl ?_)); (first | (refine hK _ _ ?_) | (refine ⟨_, rfl, hK _ _ ?_⟩) | (refine Or.inr (hK _ _ ?_)) | (refine Or.inr ⟨rfl, hK _ _ ?_⟩)); clear hK K)
      | ((with_reducible refine lopsF_nil ?_ ?_); (case _ => (simp only [lfreesAt]; repeat (first | exact trivial | (refine And.intro (by unfold lfreeAt; unfold aopO; simp (disch := first | exact dch | fail) only [go_sem, Nat.reduceAdd, Nat.reduceSub, reduceIte, Nat.reduceEqDiff, Int.reduceToNat, Int.reduceBEq, Int.reduceBNe]; (repeat (with_reducible refine And.intro acl ?_)); first | exact ⟨rfl, fun d h => by cases h; rfl⟩ | exact fun d h => by cases h; rfl | exact Or.inr ⟨rfl, fun d h => by cases h; rfl⟩ | exact Or.inr (fun d h => by cases h; rfl) | exact Or.inl ⟨rfl, fun d h => by cases h; rfl⟩) ?_)))))
      | (with_reducible first | refine lavc_reg ?_ | refine lavc_seq ?_ | refine lavc_block ?_ | refine lavc_skip ?_ | refine lavc_exit ?_ | refine lavc_ret ?_ | refine lavcR_round ?_)
      | (simp only [↓reduceIte, Nat.reduceEqDiff, reduceCtorEq]))
    refine G1 F1 tt tt tt tt ⟨?_⟩
    exact ⟨trivial, rfl⟩
theorem strs_snoc (N : List ByteArray) (a : ByteArray) : strs N ++ [stA a] = strs (N ++ [a]) := by simp [strs]
theorem vals_snoc (X : List ByteArray) (b : ByteArray) : vals X ++ [ivC 4, stA b, nlA, nlA] = vals (X ++ [b]) := by simp [vals, valT]
theorem round1 (N X : List ByteArray) (h0 : N ≠ []) (hX : X.length = N.length) (hl : N.length ≤ 1000) (a b : ByteArray) (c : Option Nat) : lavc Tryz.prog glob lcb28 (tB (.vsl 2 (strs [a, b]) c)) (HP N X) fun e t H => e = .normal ∧ H = HP (N ++ [a]) (X ++ [b]) := by
  have h1 : N ++ [a] ≠ [] := by simp
  have h2 : 0 < N.length := List.length_pos_iff.2 h0
  unfold tB HP
  rw [if_neg h0, if_neg h1]
  have ls := strs_length N
  have lv := vals_length X
  have s1 := strs_snoc N a
  have v1 := vals_snoc X b
  have ev : N.length - 1 + 1 = (N ++ [a]).length - 1 := by simp; omega
  have el : N.length + 1 = (N ++ [a]).length := by simp
  obtain ⟨M, hM⟩ : ∃ M, (N ++ [a]).length = M := ⟨_, rfl⟩
  obtain ⟨SN, hSN⟩ : ∃ S, strs N = S := ⟨_, rfl⟩
  obtain ⟨SX, hSX⟩ : ∃ S, vals X = S := ⟨_, rfl⟩
  rw [hM] at ev el ⊢
  rw [hSN] at ls s1 ⊢
  rw [hSX] at lv v1 ⊢
  rw [hX] at lv
  obtain ⟨n, hn⟩ : ∃ n, N.length = n := ⟨_, rfl⟩
  rw [hn] at h2 hl ls lv ev el ⊢
  simp only [strs, List.map_cons, List.map_nil, List.replicate_succ, List.replicate_zero, List.cons_append, List.nil_append]
  unfold lcb28
  refine G1 F4 tt tt tt tt ⟨?_⟩
  refine lavc_lateq [.ptr 1 0 3, .sl 3 (n - 1) 0 n n 4 false, .vsl 2 [stA a, stA b] c, .vptr [stA a, stA b] 1, stA b, .agg [ivC 4, stA b, nlA, nlA], .vsl 1 [ivC 4, stA b, nlA, nlA] (some 1), .ptr 1 0 2] ?_ ?_ <;> simp only [lputs, o1_d, o2_d, o3_d, o4_d, tput, List.set_cons_succ, List.set_cons_zero]
  · (simp only [lfreesAt]; repeat (first | exact trivial | (refine And.intro (by unfold lfreeAt; unfold aopO; simp (disch := first | exact dch | fail) only [go_sem, Nat.reduceAdd, Nat.reduceSub, reduceIte, Nat.reduceEqDiff, Int.reduceToNat, Int.reduceBEq, Int.reduceBNe, ls, lv]; (repeat (with_reducible refine And.intro acl ?_)); first | exact ⟨rfl, fun d h => by cases h; rfl⟩ | exact fun d h => by cases h; rfl | exact Or.inr ⟨rfl, fun d h => by cases h; rfl⟩ | exact Or.inr (fun d h => by cases h; rfl) | exact Or.inl ⟨rfl, fun d h => by cases h; rfl⟩) ?_)))
  · refine G1 F3 (an ls (an lv tt)) tt tt tt ⟨?_⟩
    repeat (first
      | ((with_reducible refine lopsF_step ?_ fun K hK => ?_); (case _ => (simp only [lfreesAt]; repeat (first | exact trivial | (refine And.intro (by unfold lfreeAt; unfold aopO; simp (disch := first | exact dch | fail) only [go_sem, Nat.reduceAdd, Nat.reduceSub, reduceIte, Nat.reduceEqDiff, Int.reduceToNat, Int.reduceBEq, Int.reduceBNe, ls, lv, s1, v1, ev, el]; (repeat (with_reducible refine And.intro acl ?_)); first | exact ⟨rfl, fun d h => by cases h; rfl⟩ | exact fun d h => by cases h; rfl | exact Or.inr ⟨rfl, fun d h => by cases h; rfl⟩ | exact Or.inr (fun d h => by cases h; rfl) | exact Or.inl ⟨rfl, fun d h => by cases h; rfl⟩) ?_)))); with_reducible skip; simp (disch := first | exact dch | fail) only [go_sem, Nat.reduceAdd, Nat.reduceSub, reduceIte, Nat.reduceEqDiff, Int.reduceToNat, Int.reduceBEq, Int.reduceBNe, ls, lv, s1, v1, ev, el]; (repeat (with_reducible refine And.intro acl ?_)); (first | (refine hK _ _ ?_) | (refine ⟨_, rfl, hK _ _ ?_⟩) | (refine Or.inr (hK _ _ ?_)) | (refine Or.inr ⟨rfl, hK _ _ ?_⟩)); clear hK K)
      | ((with_reducible refine lopsF_nil ?_ ?_); (case _ => (simp only [lfreesAt]; repeat (first | exact trivial | (refine And.intro (by unfold lfreeAt; unfold aopO; simp (disch := first | exact dch | fail) only [go_sem, Nat.reduceAdd, Nat.reduceSub, reduceIte, Nat.reduceEqDiff, Int.reduceToNat, Int.reduceBEq, Int.reduceBNe, ls, lv, s1, v1, ev, el]; (repeat (with_reducible refine And.intro acl ?_)); first | exact ⟨rfl, fun d h => by cases h; rfl⟩ | exact fun d h => by cases h; rfl | exact Or.inr ⟨rfl, fun d h => by cases h; rfl⟩ | exact Or.inr (fun d h => by cases h; rfl) | exact Or.inl ⟨rfl, fun d h => by cases h; rfl⟩) ?_)))))
      | (with_reducible first | refine lavc_reg ?_ | refine lavc_seq ?_ | refine lavc_block ?_ | refine lavc_skip ?_ | refine lavc_exit ?_ | refine lavc_ret ?_ | refine lavcR_round ?_)
      | (simp only [↓reduceIte, Nat.reduceEqDiff, reduceCtorEq]))
    refine G1 F1 (an ls (an lv (an s1 (an v1 (an ev (an el tt)))))) tt tt tt ⟨?_⟩
    exact ⟨trivial, rfl⟩
theorem roundX (N X : List ByteArray) (p : List ByteArray) (hp : p.length ≠ 2) (hp2 : p.length ≤ 1000) (c : Option Nat) : lavc Tryz.prog glob lcb28 (tB (.vsl p.length (strs p) c)) (HP N X) fun e t H => e = .normal ∧ H = HP N X := by
  unfold tB
  simp only [List.replicate_succ, List.replicate_zero, List.cons_append, List.nil_append]
  unfold lcb28
  have q : (((p.length : Int) : Int) == 2) = false := by rw [beq_eq_false_iff_ne, ne_eq]; omega
  refine G1 F4 (an q tt) tt tt tt ⟨?_⟩
  exact ⟨trivial, trivial⟩
end Go.Abs.S
namespace Go.Proofs.YtgmchiadphdlhaaGreatDoor.Chk
open Go.RowKit Go.Shelf
set_option linter.unusedVariables false
set_option linter.unusedSimpArgs false
attribute [local go_sem] Oper.semAt_some
/-- The k-th part of a slice, two by two. -/
def part (B o n k : Nat) : Value := .slice (some ⟨B, o + 2 * k, none⟩) (min 2 (n - 2 * k)) (min 2 (n - 2 * k))
/-- So many parts. -/
def parts (n : Nat) : Nat := (n + 1) / 2
structure Kr (R : Nat → Prop) (W W' : World) : Prop where
  size : W.heap.size ≤ W'.heap.size
  same : ∀ B, R B → W'.heap[B]? = W.heap[B]?
theorem Kr.refl (R : Nat → Prop) (W : World) : Kr R W W := ⟨Nat.le_refl _, fun _ _ => rfl⟩
theorem Kr.trans {R : Nat → Prop} {A B C : World} (h : Kr R A B) (k : Kr R B C) : Kr R A C := ⟨Nat.le_trans h.size k.size, fun b hb => (k.same b hb).trans (h.same b hb)⟩
theorem Kr.cell {R : Nat → Prop} {W W' : World} (h : Kr R W W') {B o : Nat} (h1 : R B) : W'.cell? ⟨B, o, none⟩ = W.cell? ⟨B, o, none⟩ := World.cell?_of_block (h.same B h1)
set_option maxRecDepth 100000 in
set_option maxHeartbeats 2000000 in
theorem chunk1_in (F : Fence) (m : Nat) (h7 : F.fn 77) (hro : F.round = none) (hn : 1 ≤ m) (R : Nat → Prop) (l B0 o0 B1 o1 B o n cap : Nat) (hreach : n ≤ 1000000) (hcap : n ≤ cap) (r0 : R B0) (r1 : R B1) (J Jx : List Nat → World → Prop) (hA : ∀ s W W', J s W → W.grownBy W' none → J s W')
    (hY : ∀ pre y W, J pre W → pre.length < parts n → YieldAt F (m - 1) Tryz.prog l #[part B o n y] W fun e W' =>
      (e = .returned (.bool true) ∧ J (pre ++ [y]) W' ∧ Kr R W W') ∨ (e = .returned (.bool false) ∧ Jx (pre ++ [y]) W'))
    (W : World) (h0 : W.cell? ⟨B0, o0, none⟩ = some (.slice (some ⟨B, o, none⟩) n cap)) (h1 : W.cell? ⟨B1, o1, none⟩ = some (.int .i64 2)) (hJ : J [] W) :
    CallsIn F m Tryz.prog 77 #[.func (.yield l) #[] #[], .pointer (some ⟨B0, o0, none⟩), .pointer (some ⟨B1, o1, none⟩)] W fun e W' => (∃ v, e = .returned v) ∧
      ((∃ ys, ys = List.range (parts n) ∧ J ys W') ∨ (∃ pre, (∃ k, k ≤ parts n ∧ pre = List.range k) ∧ Jx pre W')) := by
  refine callsIn_of_wp Tryz.func77 rfl h7 ?_ hro
  simp only [Tryz.ntmps77, List.size_toArray, List.length_cons, List.length_nil, Nat.reduceAdd, Nat.reduceSub, Array.replicate_succ, Array.replicate_zero, List.push_toArray, List.append_toArray, List.nil_append, List.cons_append]
  gi_wp2
  gi_loopw [4] (fun i wr => ∃ k : Nat, k ≤ parts n ∧ i = .int .i64 (2 * k : Nat) ∧ J (List.range k) wr ∧ Kr R W wr)
    (fun i _ => n + 2 - (intOf i).toNat)
  case atStart => exact ⟨0, Nat.zero_le _, by simp, hJ, Kr.refl _ _⟩
  case round =>
    obtain ⟨k, hk, rfl, hJs, hnx⟩ := hrel
    have c0 := (hnx.cell r0).trans h0
    have c1 := (hnx.cell r1).trans h1
    by_cases hlt : 2 * k < n
    · have hp : k < parts n := by unfold parts; omega
      have hJd : J (List.range k) wr.drew := hA _ _ _ hJs ⟨rfl, rfl, rfl, Nat.le_refl _, fun _ _ _ => rfl⟩
      obtain ⟨fn, tmps, assign, body, hy, hR⟩ := hY _ k wr.drew hJd (by simpa using hp)
      have hmn : (if ((n - 2 * k : Nat) : Int) < 2 then ((n - 2 * k : Nat) : Int) else 2) = ((min 2 (n - 2 * k) : Nat) : Int) := by split <;> omega
      obtain ⟨e, he⟩ : ∃ e, min 2 (n - 2 * k) = e := ⟨_, rfl⟩
      have he1 : 1 ≤ e ∧ e ≤ 2 ∧ 2 * k + e ≤ n := by omega
      unfold part at hy
      rw [he] at hmn hy
      gi_wp2
      gi_region
      gi_wp2
      all_goals
        refine hR.mono ?_
        rintro e' W3 (⟨rfl, hJ3, hk3⟩ | ⟨rfl, hJx3⟩)
        · have c13 := (hk3.cell r1).trans c1
          gi_wp2
          go_roundw
          case rel =>
            refine ⟨k + 1, by omega, ?_, by rw [List.range_succ]; exact hJ3, hnx.trans ((⟨Nat.le_refl _, fun _ _ => rfl⟩ : Kr R wr wr.drew).trans hk3)⟩
            simp only [Value.int.injEq, true_and]
            omega
          case measure =>
            simp [intOf]
            omega
        · gi_wp2
          refine bodyPost_ret (results_none rfl _ _ _) rfl ?_
          exact ⟨⟨_, rfl⟩, .inr ⟨_, ⟨k + 1, by omega, List.range_succ.symm⟩, hJx3⟩⟩
    · gi_wp2
      go_end0
      obtain rfl : k = parts n := by unfold parts at hk ⊢; omega
      exact ⟨⟨_, rfl⟩, .inl ⟨_, rfl, hJs⟩⟩
set_option maxRecDepth 100000 in
set_option maxHeartbeats 1000000 in
theorem chunk1_none (F : Fence) (m : Nat) (h7 : F.fn 77) (hro : F.round = none) (l B0 o0 : Nat) (p1 : Option Addr) (A : Option Addr) (cap : Nat) (J : List Nat → World → Prop) (W : World) (h0 : W.cell? ⟨B0, o0, none⟩ = some (.slice A 0 cap)) (hJ : J [] W) :
    CallsIn F m Tryz.prog 77 #[.func (.yield l) #[] #[], .pointer (some ⟨B0, o0, none⟩), .pointer p1] W fun e W' => (∃ v, e = .returned v) ∧ J [] W' := by
  refine callsIn_of_wp Tryz.func77 rfl h7 ?_ hro
  simp only [Tryz.ntmps77, List.size_toArray, List.length_cons, List.length_nil, Nat.reduceAdd, Nat.reduceSub, Array.replicate_succ, Array.replicate_zero, List.push_toArray, List.append_toArray, List.nil_append, List.cons_append]
  gi_wp2
  gi_loopw [4] (fun i wr => i = .int .i64 0 ∧ J [] wr ∧ wr.cell? ⟨B0, o0, none⟩ = some (.slice A 0 cap)) (fun _ _ => 0)
  case atStart => exact ⟨rfl, hJ, h0⟩
  case round =>
    obtain ⟨rfl, hJs, hc⟩ := hrel
    gi_wp2
    go_end0
    exact ⟨⟨_, rfl⟩, hJs⟩
/-- What Chunk's iterator hands out. -/
theorem chunk_stops (F : Fence) (m : Nat) (h7 : F.fn 77) (hro : F.round = none) (hn : 1 ≤ m) (R : Nat → Prop) (B0 o0 B1 o1 B o n cap : Nat) (hreach : n ≤ 1000000) (hcap : n ≤ cap) (r0 : R B0) (r1 : R B1) (w : World) (hl0 : B0 < w.heap.size) (hl1 : B1 < w.heap.size)
    (h0 : w.cell? ⟨B0, o0, none⟩ = some (.slice (some ⟨B, o, none⟩) n cap)) (h1 : w.cell? ⟨B1, o1, none⟩ = some (.int .i64 2)) :
    SeqStopsK F m Tryz.prog 77 #[.pointer (some ⟨B0, o0, none⟩), .pointer (some ⟨B1, o1, none⟩)] (fun y : Nat => #[part B o n y]) (Kr R) (fun ys => ys = List.range (parts n)) (fun _ => True) (parts n) w := fun l J Jx W hW hA _ hY hJ => by
  have h0' := (hW.cell (p := ⟨B0, o0, none⟩) hl0).trans h0
  have h1' := (hW.cell (p := ⟨B1, o1, none⟩) hl1).trans h1
  refine (chunk1_in F m h7 hro hn R l B0 o0 B1 o1 B o n cap hreach hcap r0 r1 J Jx (fun s A C hs hg => hA s A C none hs hg (fun r e => by cases e)) hY W h0' h1' hJ).mono ?_
  rintro e W' ⟨he, ⟨ys, rfl, hj⟩ | ⟨pre, _, hj⟩⟩
  · exact ⟨he, .inl ⟨_, rfl, hj⟩⟩
  · exact ⟨he, .inr ⟨_, trivial, hj⟩⟩
theorem chunk_stops0 (F : Fence) (m : Nat) (h7 : F.fn 77) (hro : F.round = none) (R : Nat → Prop) (B0 o0 : Nat) (p1 A : Option Addr) (cap : Nat) (v : Nat → Value) (w : World) (hl0 : B0 < w.heap.size)
    (h0 : w.cell? ⟨B0, o0, none⟩ = some (.slice A 0 cap)) :
    SeqStopsK F m Tryz.prog 77 #[.pointer (some ⟨B0, o0, none⟩), .pointer p1] (fun y : Nat => #[v y]) (Kr R) (fun ys => ys = []) (fun _ => True) 0 w := fun l J Jx W hW _ _ _ hJ => by
  have h0' := (hW.cell (p := ⟨B0, o0, none⟩) hl0).trans h0
  exact (chunk1_none F m h7 hro l B0 o0 p1 A cap J W h0' hJ).mono fun e W' ⟨he, hj⟩ => ⟨he, .inl ⟨_, rfl, hj⟩⟩
end Go.Proofs.YtgmchiadphdlhaaGreatDoor.Chk
namespace Go.Abs.S
open Go.Proofs
open Go.Proofs.YtgmchiadphdlhaaGreatDoor.Chk (part parts Kr)
set_option linter.unusedVariables false
set_option linter.unusedSimpArgs false
set_option maxRecDepth 100000
set_option maxHeartbeats 4000000
theorem NR.strs (N : List ByteArray) : ∀ x ∈ strs N, NR x := fun x hx => by
  obtain ⟨s, _, rfl⟩ := List.mem_map.1 hx
  exact NR.v _
theorem NR.valsX (X : List ByteArray) : ∀ x ∈ vals X, NR x := fun x hx => by
  obtain ⟨s, _, hx⟩ := List.mem_flatMap.1 hx
  simp only [valT, List.mem_cons, List.not_mem_nil, or_false] at hx
  rcases hx with rfl | rfl | rfl | rfl <;> exact NR.v _
/-- Chunk, the maker: both arguments are boxed. -/
theorem chunk_w (a : Option Addr) (len cap : Nat) (w : World) : Calls Tryz.prog 51 #[.slice a len cap, .int .i64 2] w fun e w' =>
    e = .returned (.func (.func 77) #[] #[.pointer (some ⟨w.heap.size, 0, none⟩), .pointer (some ⟨w.heap.size + 1, 0, none⟩)]) ∧ w' = (w.alloc (.cells #[.slice a len cap] 26)).alloc (.cells #[.int .i64 2] 3) := by
  refine (callsIn_wide (n := 3)).1 ?_
  refine callsIn_of_wp Tryz.func51 rfl trivial ?_ rfl
  simp only [Tryz.ntmps51, List.size_toArray, List.length_cons, List.length_nil, Nat.reduceAdd, Nat.reduceSub, Array.replicate_succ, Array.replicate_zero, List.push_toArray, List.append_toArray, List.nil_append, List.cons_append]
  gi_wp2
  go_ret
  exact ⟨rfl, rfl⟩
theorem chunk_p (ss : List ByteArray) (c : Option Nat) : PCall Tryz.prog glob 51 [.vsl ss.length (strs ss) c, ivC 2] (.fn (.func 77) [.vptr [.vsl ss.length (strs ss) c] 0, .vptr [ivC 2] 0]) := by
  intro H
  refine ⟨⟨_, Tryz.func51, by kernel_rfl, by kernel_rfl⟩, fun σ w us hu ha rel => ?_⟩
  obtain ⟨u0, u1, rfl⟩ : ∃ u v, us = #[u, v] := by
    obtain ⟨l⟩ := us
    match l, hu with
    | [u, v], _ => exact ⟨u, v, rfl⟩
  have h0 := ha 0 (by simp)
  have h1 := ha 1 (by simp)
  simp only [List.getD_cons_zero, List.getD_cons_succ] at h0 h1
  have e0 : (#[u0, u1] : Array Value).getD 0 undef = u0 := rfl
  have e1 : (#[u0, u1] : Array Value).getD 1 undef = u1 := rfl
  rw [e0] at h0
  rw [e1] at h1
  cases h1
  obtain ⟨A, len, cap, rfl⟩ : ∃ A l c, u0 = .slice A l c := by
    generalize ss.length = n at h0
    generalize strs ss = cs at h0
    cases h0 <;> exact ⟨_, _, _, rfl⟩
  refine (chunk_w A len cap w).mono ?_
  rintro e W ⟨rfl, rfl⟩
  obtain ⟨r1, x1, m1⟩ := rel.seal #[.slice A len cap] 26 (0, 0)
  obtain ⟨w1, hw1⟩ : ∃ w1, w.alloc (.cells #[.slice A len cap] 26) = w1 := ⟨_, rfl⟩
  have hs1 : w1.heap.size = w.heap.size + 1 := by rw [← hw1]; simp
  have hc1 : w1.cell? ⟨w.heap.size, 0, none⟩ = some (.slice A len cap) := by rw [← hw1]; simp only [World.cell?]; rw [World.alloc_heap_new]; rfl
  rw [hw1] at r1 x1 m1 ⊢
  obtain ⟨r2, x2, m2⟩ := r1.seal #[.int .i64 2] 3 (0, 0)
  refine ⟨_, rfl, _, ?_, r2, x1.trans x2, fun _ => ⟨fun B hB => .same ?_, fun _ _ _ h => .inl h⟩⟩
  · refine .fn _ rfl fun j hj => ?_
    match j, hj with
    | 0, _ =>
      refine AR.vptr (off := 0) w.heap.size 0 (fun _ => .slice A len cap) (.inl (.inr rfl)) (fun j hj => ?_) (fun j hj => ?_)
      · obtain rfl : j = 0 := by simpa using hj
        rw [World.cell?_of_block (RowKit.Below.heap_alloc _ _ _ (show w.heap.size < w1.heap.size by omega))]
        exact hc1
      · obtain rfl : j = 0 := by simpa using hj
        exact m2 _ _ (m1 _ _ h0)
    | 1, _ =>
      show AR _ _ (.vptr [ivC 2] 0) (.pointer (some ⟨w.heap.size + 1, 0, none⟩))
      rw [← hs1]
      refine AR.vptr (off := 0) w1.heap.size 0 (fun _ => .int .i64 2) (Or.inr rfl) (fun j hj => ?_) (fun j hj => ?_)
      · obtain rfl : j = 0 := by simpa using hj
        simp only [World.cell?]
        rw [World.alloc_heap_new]
        rfl
      · obtain rfl : j = 0 := by simpa using hj
        exact .v _
  · rw [RowKit.Below.heap_alloc _ _ _ (show B < w1.heap.size by omega), ← hw1, RowKit.Below.heap_alloc _ _ _ hB]
end Go.Abs.S
namespace Go.Abs.S
attribute [local go_sem] lguard aopO aop aenv toAV tput aLoad aStore vcells aBin aNilI aUn aAlloc aBox aBuild aBSlice afill aConv isIntT aappZ aCap aArr aMM aMake aSlice bnd3 bnd aFldAddr aFld aIdxAddr aIdx aExt aLen aCopy aEq0 bAV aUb aapp aappQ agh acont List.getD_cons_zero List.getD_cons_succ List.set_cons_zero List.set_cons_succ List.getElem?_cons_zero List.getElem?_cons_succ List.length_cons List.length_nil List.map_cons List.map_nil ints_length if_true if_false Bool.false_eq_true true_and and_true eq_self ne_eq not_false_eq_true not_true_eq_false beq_self_eq_true Nat.zero_add Nat.add_zero Nat.mul_one Nat.zero_mul Int.toNat_natCast List.toList_toArray List.all_cons List.all_nil AV.one Value.oneCell' Bool.and_true Bool.true_and forall_const true_implies false_implies implies_true Option.map_some Option.map_none Option.isSome_some Option.isSome_none imp_self rdP_flat rdP_row splice_one ints_set ints_get List.append_nil List.cons_append List.nil_append List.getElem?_toArray List.drop_zero ints_drop ints_take List.take_of_length_le splice_all ints_one Option.some.injEq Option.getD_some List.length_replicate zArr List.map_replicate rep_ints splice_intsR List.length_set List.length_append List.flatten_replicate_singleton rep_slice rep_string rep_bool rep_iface List.replicate_zero if_pos if_neg List.mapM_cons List.mapM_nil Option.pure_def Option.bind_eq_bind Option.bind_some Bool.true_eq_false Bool.not_false Bool.not_true get_concat set_concat
open Go.Proofs
open Go.Proofs.YtgmchiadphdlhaaGreatDoor.Chk (parts Kr chunk_stops chunk_stops0)
set_option linter.unusedVariables false
set_option linter.unusedSimpArgs false
set_option maxRecDepth 100000
set_option maxHeartbeats 4000000
noncomputable def ofC : Code := (Tryz.f28.body).getD .skip
theorem ofC_eq : Tryz.f28.body = some ofC := by kernel_rfl
def sq1 : Code → Code
  | .seq a _ => a
  | c => c
def sq2 : Code → Code
  | .seq _ b => b
  | c => c
def lq1 : LCode → LCode
  | .seq a _ => a
  | c => c
def lrg : LCode → List LOp
  | .reg _ post => post
  | _ => []
def lq2 : LCode → LCode
  | .seq _ b => b
  | c => c
def rfB (c : Code) : Code := match rfOf c with
  | some x => x.2.2.2
  | none => .skip
def rfA (c : Code) : Code := match rfOf c with
  | some x => x.2.2.1
  | none => .skip
def opsOf : Code → Array Oper
  | .region _ ops _ => ops
  | _ => #[]
theorem ofC_shape : ofC = .seq (sq1 ofC) (.seq (sq1 (sq2 ofC)) (.seq (.seq (sq1 (sq1 (sq2 (sq2 ofC)))) (.block 0 (.rangeFunc (.tmp 7) #[8] (rfA ofC) (rfB ofC)))) (.seq (sq1 (sq2 (sq2 (sq2 ofC)))) .ret))) := by kernel_rfl
theorem rfA_shape : rfA ofC = .region 3 #[(opsOf (rfA ofC))[0]!] false := by kernel_rfl
theorem rfA_op : (opsOf (rfA ofC))[0]!.op = .assign (.tmp 8) := by kernel_rfl
theorem rfA_dst : (opsOf (rfA ofC))[0]!.dst = some 4 := by kernel_rfl
theorem rfA_guard : (opsOf (rfA ofC))[0]!.guard = none := by kernel_rfl
theorem of_s0 : strip Tryz.prog impCodC (sq1 ofC) = lq1 lc28 := by kernel_rfl
theorem of_s1 : strip Tryz.prog impCodC (sq1 (sq2 ofC)) = lq1 (lq2 lc28) := by kernel_rfl
theorem of_s2 : strip Tryz.prog impCodC (sq1 (sq1 (sq2 (sq2 ofC)))) = lq1 (lq1 (lq2 (lq2 lc28))) := by kernel_rfl
theorem of_s6 : strip Tryz.prog impCodC (sq1 (sq2 (sq2 (sq2 ofC)))) = lq1 (lq2 (lq2 (lq2 lc28))) := by kernel_rfl
theorem of_d6 : sq1 (sq2 (sq2 (sq2 ofC))) = .region 6 (opsOf (sq1 (sq2 (sq2 (sq2 ofC))))) false := by kernel_rfl
theorem of_sb : strip Tryz.prog impCodF (rfB ofC) = lcb28 := by kernel_rfl
/-- The pairs' first and second ones. -/
def pick (ss : List ByteArray) (d : Nat) (pre : List Nat) : List ByteArray := pre.filterMap fun k => if 2 * k + 2 ≤ ss.length then some (ss.getD (2 * k + d) ⟨#[]⟩) else none
def nms (ss : List ByteArray) : List ByteArray := pick ss 0 (List.range (parts ss.length))
def txs (ss : List ByteArray) : List ByteArray := pick ss 1 (List.range (parts ss.length))
theorem pick_snoc (ss : List ByteArray) (d : Nat) (pre : List Nat) (k : Nat) : pick ss d (pre ++ [k]) = if 2 * k + 2 ≤ ss.length then pick ss d pre ++ [ss.getD (2 * k + d) ⟨#[]⟩] else pick ss d pre := by
  unfold pick
  rw [List.filterMap_append]
  by_cases h : 2 * k + 2 ≤ ss.length
  · rw [if_pos h]
    simp [h]
  · rw [if_neg h]
    simp [h]
theorem pick_len (ss : List ByteArray) (d e : Nat) (pre : List Nat) : (pick ss d pre).length = (pick ss e pre).length := by
  induction pre with
  | nil => rfl
  | cons k pre ih =>
    unfold pick at ih ⊢
    rw [List.filterMap_cons, List.filterMap_cons]
    by_cases h : 2 * k + 2 ≤ ss.length
    · rw [if_pos h, if_pos h, List.length_cons, List.length_cons, ih]
    · rw [if_neg h, if_neg h]
      exact ih
theorem pick_le (ss : List ByteArray) (d : Nat) (pre : List Nat) : (pick ss d pre).length ≤ pre.length := List.length_filterMap_le _ _
/-- A page of texts. -/
def pageA (N X : List ByteArray) : AV := .agg [ivC 6, stA ⟨#[]⟩, .vsl N.length (strs N) none, .vsl N.length (vals X) none]
theorem NR.pageA (N X : List ByteArray) : NR (pageA N X) := NR.agg (by
  intro x hx
  simp only [List.mem_cons, List.not_mem_nil, or_false] at hx
  rcases hx with rfl | rfl | rfl | rfl
  · exact NR.v _
  · exact NR.v _
  · exact NR.vsl (NR.strs _)
  · exact NR.vsl (NR.valsX _))
/-- A round, whatever the part. -/
theorem round_any (ss : List ByteArray) (hs : ss.length ≤ 1000) (pre : List Nat) (hp : pre.length ≤ 1000) (k : Nat) (c : Option Nat) :
    lavc Tryz.prog glob lcb28 (tB (.vsl (min 2 (ss.length - 2 * k)) (strs ((ss.drop (2 * k)).take 2)) c)) (HP (pick ss 0 pre) (pick ss 1 pre)) fun e t H => e = .normal ∧ H = HP (pick ss 0 (pre ++ [k])) (pick ss 1 (pre ++ [k])) := by
  have hl : ((ss.drop (2 * k)).take 2).length = min 2 (ss.length - 2 * k) := by rw [List.length_take, List.length_drop]
  rw [pick_snoc, pick_snoc]
  by_cases h : 2 * k + 2 ≤ ss.length
  · rw [if_pos h, if_pos h]
    have e2 : (ss.drop (2 * k)).take 2 = [ss.getD (2 * k + 0) ⟨#[]⟩, ss.getD (2 * k + 1) ⟨#[]⟩] := by
      rw [List.drop_eq_getElem_cons (by omega), List.drop_eq_getElem_cons (by omega)]
      simp only [List.take_succ_cons, List.take_zero, List.getD_eq_getElem?_getD, Nat.add_zero]
      rw [List.getElem?_eq_getElem (by omega), List.getElem?_eq_getElem (by omega)]
      rfl
    rw [e2, show min 2 (ss.length - 2 * k) = 2 from by omega]
    by_cases h0 : pick ss 0 pre = []
    · have h1 : pick ss 1 pre = [] := List.eq_nil_of_length_eq_zero (by rw [pick_len ss 1 0, h0]; rfl)
      rw [h0, h1]
      exact round0 _ _ c
    · exact round1 _ _ h0 (pick_len ss 1 0 pre) (Nat.le_trans (pick_le ss 0 pre) hp) _ _ c
  · rw [if_neg h, if_neg h, ← hl]
    exact roundX _ _ _ (by omega) (by omega) c
/-- What the k-th part holds. -/
theorem part_ar {σ : Sig} {w : World} {ss : List ByteArray} {B o : Nat} {u : Nat → Value} (hr : σ.ro B) (hm : ∀ j, j < (strs ss).length → w.cell? ⟨B, o + j, none⟩ = some (u j)) (ha : ∀ j, j < (strs ss).length → AR σ w ((strs ss).getD j .any) (u j)) (k : Nat) :
    AR σ w (.vsl (min 2 (ss.length - 2 * k)) (strs ((ss.drop (2 * k)).take 2)) none) (Go.Proofs.YtgmchiadphdlhaaGreatDoor.Chk.part B o ss.length k) := by
  have hl : (strs ((ss.drop (2 * k)).take 2)).length = min 2 (ss.length - 2 * k) := by rw [strs_length, List.length_take, List.length_drop]
  have hs := strs_length ss
  unfold Go.Proofs.YtgmchiadphdlhaaGreatDoor.Chk.part
  refine .vsl B (o + 2 * k) _ (fun j => u (2 * k + j)) hr (fun j hj => ?_) (fun j hj => ?_) (Nat.le_refl _) (fun c h => by cases h)
  · rw [Nat.add_assoc]
    exact hm _ (by omega)
  · have := ha (2 * k + j) (by omega)
    have e : (strs ((ss.drop (2 * k)).take 2)).getD j .any = (strs ss).getD (2 * k + j) .any := by
      have e1 : strs ((ss.drop (2 * k)).take 2) = ((strs ss).drop (2 * k)).take 2 := by simp [strs, List.map_take, List.map_drop]
      rw [e1, List.getD_eq_getElem?_getD, List.getD_eq_getElem?_getD, List.getElem?_take, if_pos (by omega), List.getElem?_drop]
    rw [e]
    exact this
/-- How far a page is. -/
def IOf (ss : List ByteArray) (σ0 : Sig) (w0 : World) (pre : List Nat) (W : World) : Prop := pre.length ≤ 1000 ∧ ∃ σ', Rel glob σ' (HP (pick ss 0 pre) (pick ss 1 pre)) W ∧ Ext σ0 (HP [] []) w0 σ' (HP (pick ss 0 pre) (pick ss 1 pre)) W
theorem of_end (N X : List ByteArray) (hX : X.length = N.length) (t : List AV) (h2 : t.getD 2 .any = .ptr 0 0 0) (h3 : t.getD 3 .any = .ptr 1 0 0) (hl : t.length = 30) :
    lops Tryz.prog glob false (lrg (lq1 (lq2 (lq2 (lq2 lc28))))) t (HP N X) fun t H => aret Tryz.prog t H [.cell 2 29] fun r => Fin 0 H r (pageA N X) [] := by
  match t, hl with
  | [a0, a1, a2, a3, a4, a5, a6, a7, a8, a9, b0, b1, b2, b3, b4, b5, b6, b7, b8, b9, c0, c1, c2, c3, c4, c5, c6, c7, c8, c9], _ =>
    simp only [List.getD_cons_succ, List.getD_cons_zero] at h2 h3
    subst h2 h3
    simp only [lc28, lq1, lq2, lrg]
    unfold HP
    by_cases h0 : N = []
    · subst h0
      obtain rfl : X = [] := List.eq_nil_of_length_eq_zero hX
      rw [if_pos rfl]
      refine G1 F4 tt tt tt tt ⟨?_⟩
      simp (disch := first | exact dch | fail) only [go_sem, Nat.reduceAdd, Nat.reduceSub, reduceIte, Nat.reduceEqDiff, Int.reduceToNat, Int.reduceBEq, Int.reduceBNe, aenv, aret, aretL, aret1]
      exact ⟨Nat.le_refl _, .agg rfl (fun j hj => (match j, hj with
        | 0, _ => .nr (NR.v _)
        | 1, _ => .nr (NR.v _)
        | 2, _ => .nil
        | 3, _ => .nil)), Nat.zero_le _, fun b k hb => absurd hb (Nat.not_lt_zero _), rfl⟩
    · rw [if_neg h0]
      have ls := strs_length N
      have lv := vals_length X
      refine G1 F4 tt tt tt tt ⟨?_⟩
      simp (disch := first | exact dch | fail) only [go_sem, Nat.reduceAdd, Nat.reduceSub, reduceIte, Nat.reduceEqDiff, Int.reduceToNat, Int.reduceBEq, Int.reduceBNe, aenv, aret, aretL, aret1]
      refine ⟨Nat.le_refl _, .agg rfl (fun j hj => (match j, hj with
        | 0, _ => .nr (NR.v _)
        | 1, _ => .nr (NR.v _)
        | 2, _ => ?_
        | 3, _ => ?_)), Nat.zero_le _, fun b k hb => absurd hb (Nat.not_lt_zero _), rfl⟩
      · have e : ((strs N).drop 0).take (N.length * 1) = strs N := by rw [List.drop_zero]; exact List.take_of_length_le (by omega)
        show View 0 _ (.sl 2 (N.length - 1) 0 N.length N.length 1 false) (.vsl N.length (strs N) none)
        rw [show AV.vsl N.length (strs N) none = AV.vsl N.length (((strs N).drop 0).take (N.length * 1)) none from by rw [e]]
        exact View.sl (k := ⟨strs N, N.length - 1, true, 9⟩) (Nat.zero_le _) rfl rfl rfl (Nat.le_refl _) (by show 0 + N.length * 1 ≤ (strs N).length; omega) (NR.strs N)
      · have e : ((vals X).drop 0).take (N.length * 4) = vals X := by rw [List.drop_zero]; exact List.take_of_length_le (by omega)
        show View 0 _ (.sl 3 (N.length - 1) 0 N.length N.length 4 false) (.vsl N.length (vals X) none)
        rw [show AV.vsl N.length (vals X) none = AV.vsl N.length (((vals X).drop 0).take (N.length * 4)) none from by rw [e]]
        exact View.sl (k := ⟨vals X, N.length - 1, true, 29⟩) (Nat.zero_le _) rfl rfl rfl (Nat.le_refl _) (by show 0 + N.length * 4 ≤ (vals X).length; omega) (NR.valsX X)
theorem of_begin (ss : List ByteArray) (c : Option Nat) : lavc Tryz.prog glob (lq1 lc28) ([.vsl ss.length (strs ss) c] ++ List.replicate 29 (.v undef)) [] fun e t H => e = .normal ∧ lavc Tryz.prog glob (lq1 (lq2 lc28)) t H fun e t H => e = .normal ∧ lavc Tryz.prog glob (lq1 (lq1 (lq2 (lq2 lc28)))) t H fun e t H =>
    e = .normal ∧ H = HP [] [] ∧ t.getD 2 .any = .ptr 0 0 0 ∧ t.getD 3 .any = .ptr 1 0 0 ∧ t.getD 7 .any = .fn (.func 77) [.vptr [.vsl ss.length (strs ss) c] 0, .vptr [ivC 2] 0] ∧ t.length = 30 := by
  simp only [lc28, lq1, lq2, List.replicate_succ, List.replicate_zero, List.cons_append, List.nil_append]
  have cp := chunk_p ss c
  refine G1 F4 tt tt tt tt ⟨?_⟩
  refine ⟨trivial, ?_⟩
  refine G1 F4 tt tt tt tt ⟨?_⟩
  refine ⟨trivial, ?_⟩
  refine G1 F4 tt (an cp.go tt) tt tt ⟨?_⟩
  exact ⟨trivial, by unfold HP; rw [if_pos rfl], rfl, rfl, rfl, rfl⟩
/-- The rounds' act. -/
def actA (a : Act) (v : Value) : Act := ({ tmps := a.tmps.setIfInBounds 8 v, defers := [] } : Act).put (some 4) (({ tmps := a.tmps.setIfInBounds 8 v, defers := [] } : Act).eval (.tmp 8))
theorem actA_get (a : Act) (v : Value) (h : a.tmps.size = 30) (j : Nat) (hj : j < 30) : (actA a v).tmps.getD j undef = if j = 4 ∨ j = 8 then v else a.tmps.getD j undef := by
  have hs : (a.tmps.setIfInBounds 8 v).size = 30 := by simp [h]
  have e8 : ({ tmps := a.tmps.setIfInBounds 8 v, defers := [] } : Act).eval (.tmp 8) = v := by
    show (a.tmps.setIfInBounds 8 v).getD 8 undef = v
    rw [Array.getD_eq_getD_getElem?, Array.getElem?_setIfInBounds]
    simp [h]
  unfold actA
  rw [e8, put_getD _ _ _ _ (by show j < (a.tmps.setIfInBounds 8 v).size; omega)]
  by_cases h4 : j = 4
  · subst h4
    simp
  · rw [if_neg (by intro e; cases e; exact h4 rfl)]
    show (a.tmps.setIfInBounds 8 v).getD j undef = _
    rw [Array.getD_eq_getD_getElem?, Array.getElem?_setIfInBounds, Array.getD_eq_getD_getElem?]
    by_cases h8 : j = 8
    · subst h8
      simp [h]
    · rw [if_neg (by omega), if_neg (by omega)]
theorem assign_in {l : Nat} {m : Nat} {a : Act} {v : Value} {W : World} {K : Act → World → Prop} (hK : K (actA a v) W) :
    (rfA ofC).wpIn (Fence.wide.inRound l) m Tryz.prog (Exit.then K (fun _ _ _ => False)) { tmps := a.tmps.setIfInBounds 8 v, defers := [] } W := by
  rw [rfA_shape]
  have hd : ∀ c, (opsOf (rfA ofC))[0]!.op ≠ .defer c := fun c => by rw [rfA_op]; simp
  have ho := rfA_op
  have hds := rfA_dst
  have hg := rfA_guard
  generalize (opsOf (rfA ofC))[0]! = o at *
  refine wpIn_region_list ?_
  show wpListIn _ _ _ _ _ [o] _ _
  unfold wpListIn
  have hw : Region.wanted o (yielded #[o] ({ tmps := a.tmps.setIfInBounds 8 v, defers := [] } : Act).tmps) = true := by simp [Region.wanted, hg]
  rw [if_pos hw]
  refine op_in (ro := some l) hd ?_
  unfold Oper.wp
  have hr : (execOp ({ tmps := a.tmps.setIfInBounds 8 v, defers := [] } : Act).eval o).run Tryz.prog W = .ok (.value (({ tmps := a.tmps.setIfInBounds 8 v, defers := [] } : Act).eval (.tmp 8))) W := by
    unfold execOp
    rw [ho]
    rfl
  rw [hr, Oper.upon_value, hds]
  exact hK
/-- page.Of. -/
theorem pageOf_p (ss : List ByteArray) (c : Option Nat) (hs : ss.length ≤ 1000) : PCall Tryz.prog glob 28 [.vsl ss.length (strs ss) c] (pageA (nms ss) (txs ss)) := by
  refine PCall.of ctx.nr (List.forall_mem_cons.2 ⟨NR.vsl (NR.strs _), fun _ h => absurd h List.not_mem_nil⟩) (NR.pageA _ _) ?_
  refine ⟨⟨_, Tryz.func28, by kernel_rfl, by kernel_rfl⟩, fun σ w us hu ha rel => ?_⟩
  refine (callsIn_wide (n := 3)).1 ?_
  refine callsIn_of_wp_marks Tryz.func28 ofC_eq trivial ?_ rfl
  have hnt : Tryz.f28.ntmps = 30 := by kernel_rfl
  have hres : Tryz.f28.results.toList = [.cell 2 29] := by kernel_rfl
  rw [hnt]
  obtain ⟨a0, ha0⟩ : ∃ a0 : Act, a0 = { tmps := us ++ Array.replicate (30 - us.size) undef, defers := [] } := ⟨_, rfl⟩
  have s0 : Sim glob σ ([.vsl ss.length (strs ss) c] ++ List.replicate 29 (.v undef)) [] a0 w := by
    rw [ha0]
    refine ⟨rfl, by simp [hu], fun j hj => ?_, rel⟩
    simp only [List.length_append, List.length_replicate] at hj
    by_cases hja : j < 1
    · obtain rfl : j = 0 := by omega
      have := ha 0 (by simp)
      simpa [List.getD_eq_getElem?_getD, List.getElem?_append, Array.getElem?_append, hu] using this
    · have e1 : ([AV.vsl ss.length (strs ss) c] ++ List.replicate 29 (AV.v undef)).getD j .any = .v undef := by
        rw [List.getD_eq_getElem?_getD, List.getElem?_append_right (by simpa using (by omega : 1 ≤ j)), List.getElem?_replicate, if_pos (by simp at hj ⊢; omega)]
        rfl
      have e2 : (us ++ Array.replicate (30 - us.size) undef).getD j undef = undef := by
        have hus : us.size = 1 := hu
        rw [Array.getD_eq_getD_getElem?, Array.getElem?_append, if_neg (by omega), Array.getElem?_replicate, if_pos (by simp at hj; omega)]
        rfl
      rw [e1]
      show AR σ w (.v undef) ((us ++ Array.replicate (30 - us.size) undef).getD j undef)
      rw [e2]
      exact .v _
  rw [← ha0]
  clear ha0
  rw [ofC_shape]
  refine wpIn_seq (Code.wpIn_mono (fun e a w1 hq => ?_) (of_begin ss c impCodC _ of_s0 ctx.mix none 3 σ [] w σ a0 w s0 (Ext.refl _ _ _)))
  obtain ⟨t1, H1, σ1, ⟨rfl, k1⟩, s1, x1⟩ := hq
  refine wpIn_seq (Code.wpIn_mono (fun e a w2 hq => ?_) (k1 impCodC _ of_s1 ctx.mix none 3 σ [] w σ1 a w1 s1 x1))
  obtain ⟨t2, H2, σ2, ⟨rfl, k2⟩, s2, x2⟩ := hq
  refine wpIn_seq (wpIn_seq (Code.wpIn_mono (fun e a w3 hq => ?_) (k2 impCodC _ of_s2 ctx.mix none 3 σ [] w σ2 a w2 s2 x2)))
  obtain ⟨t3, H3, σ3, ⟨rfl, rfl, q2, q3, q7, ql⟩, s3, x3⟩ := hq
  clear k1 k2 s1 s2 x1 x2
  refine wpIn_block ?_
  have hsz : a.tmps.size = 30 := s3.size.trans ql
  -- the iterator
  have hfv := s3.tmps 7 (by omega)
  rw [q7] at hfv
  have hev : a.eval (.tmp 7) = a.tmps.getD 7 undef := rfl
  generalize a.tmps.getD 7 undef = uf at hfv hev
  cases hfv with
  | fn lb hl ha' =>
  have g0 := ha' 0 (by simp)
  have g1 := ha' 1 (by simp)
  simp only [List.getD_cons_zero, List.getD_cons_succ] at g0 g1
  obtain ⟨p0, p1, rfl⟩ : ∃ u v, lb = #[u, v] := by
    obtain ⟨l⟩ := lb
    match l, hl with
    | [u, v], _ => exact ⟨u, v, rfl⟩
  have e0 : (#[p0, p1] : Array Value).getD 0 undef = p0 := rfl
  have e1 : (#[p0, p1] : Array Value).getD 1 undef = p1 := rfl
  rw [e0] at g0
  rw [e1] at g1
  cases g0 with
  | vptr B0 o0 u0 r0 hm0 har0 =>
  cases g1 with
  | vptr B1 o1 u1 r1 hm1 har1 =>
  have c0 := hm0 0 (by simp)
  have c1 := hm1 0 (by simp)
  have v0 := har0 0 (by simp)
  have v1 := har1 0 (by simp)
  simp only [List.getD_cons_zero, Nat.add_zero] at c0 c1 v0 v1
  have hu1 : u1 0 = .int .i64 2 := by
    generalize u1 0 = y at v1
    cases v1
    rfl
  rw [hu1] at c1
  have rel3 := s3.rel
  have lt0 := rel3.roLt _ r0
  have lt1 := rel3.roLt _ r1
  have key : ∃ pv : Nat → Value, (∀ k, AR σ3 w3 (.vsl (min 2 (ss.length - 2 * k)) (strs ((ss.drop (2 * k)).take 2)) none) (pv k)) ∧
      SeqStopsK Fence.wide 2 Tryz.prog 77 #[.pointer (some ⟨B0, o0, none⟩), .pointer (some ⟨B1, o1, none⟩)] (fun y : Nat => #[pv y]) (Kr σ3.ro) (fun ys => ys = List.range (parts ss.length)) (fun _ => True) (parts ss.length) w3 := by
    generalize u0 0 = y at v0 c0
    have hsl := strs_length ss
    generalize hn : ss.length = n at v0
    generalize hcs : strs ss = cs at v0
    cases v0 with
    | vsl B o cap uu hr hm har hle hx =>
      subst hcs hn
      exact ⟨_, part_ar hr hm har, chunk_stops Fence.wide 2 trivial rfl (by decide) σ3.ro B0 o0 B1 o1 B o ss.length cap (by omega) hle r0 r1 w3 lt0 lt1 c0 c1⟩
    | vsl0 A cap hx =>
      obtain rfl : ss = [] := List.eq_nil_of_length_eq_zero hn
      refine ⟨fun _ => .slice none 0 0, fun k => ?_, ?_⟩
      · have : (strs ((([] : List ByteArray).drop (2 * k)).take 2)) = [] := by simp [strs]
        rw [this]
        show AR σ3 w3 (.vsl (min 2 (0 - 2 * k)) [] none) _
        rw [Nat.zero_sub, Nat.min_zero]
        exact .vsl0 none 0 (fun c h => by cases h)
      · exact chunk_stops0 Fence.wide 2 trivial rfl σ3.ro B0 o0 _ A cap _ w3 lt0 c0
  obtain ⟨pv, hpv, hseq⟩ := key
  refine wpIn_rangeFunc_ownF (F := Fence.wide) rfl (by decide) (gf := 77) hev trivial (enters_of Tryz.func77 (by kernel_rfl) rfl) hseq (fun h k => h.trans k)
    (fun W l o o' hl ho hoc hw => ⟨(Go.grownBy_putObj' W l o').size, fun B hB => (Go.grownBy_putObj' W l o').block B (by have := rel3.roLt B hB; have := (Array.getElem?_eq_some_iff.1 ho).1; omega) (fun e => by have := rel3.roLt B hB; cases e; omega)⟩)
    (RowKit.Below.refl _ _) (fun _ => rfl) (IOf ss σ3 w3) (fun _ _ _ => False)
    (fun s W W' row ⟨hl, σ', r, x⟩ hg hr => ⟨hl, σ', (r.grow hg (fun k e => (hr k e).2)).1, x.grow hg (fun k e => (hr k e).1)⟩)
    (fun _ _ _ _ _ h _ _ => h) ⟨by simp, σ3, rel3, Ext.refl _ _ _⟩ (fun k => actA a (pv k)) ?assign ?body ?done ?stop
  case assign =>
    intro l x W K hK
    have h := assign_in (l := l) (m := 3 - 1 - 1) (v := pv x) hK
    simpa using h
  case body =>
    rintro l pre x W ⟨hpl, σ', r, xt⟩ hlen
    have lv := round_any ss hs pre hpl x none
    have hmv : ∀ y u, AR σ3 w3 y u → AR σ' W y u := fun y u h => h.ext rel3 xt
    have s : Sim glob σ' (tB (.vsl (min 2 (ss.length - 2 * x)) (strs ((ss.drop (2 * x)).take 2)) none)) (HP (pick ss 0 pre) (pick ss 1 pre)) (actA a (pv x)) W := by
      refine ⟨rfl, ?_, fun j hj => ?_, r⟩
      · rw [actA, Act.put_size]
        simp [tB, hsz]
      · have hj : j < 30 := by simpa [tB] using hj
        rw [actA_get a (pv x) hsz j hj]
        by_cases h3 : j = 3
        · subst h3
          have := hmv _ _ (s3.tmps 3 (by omega))
          rw [q3] at this
          exact this
        · by_cases h4 : j = 4
          · subst h4
            exact hmv _ _ (hpv x)
          · have : (tB (.vsl (min 2 (ss.length - 2 * x)) (strs ((ss.drop (2 * x)).take 2)) none)).getD j .any = .any := by
              have : j = 0 ∨ j = 1 ∨ j = 2 ∨ 5 ≤ j := by omega
              rcases this with rfl | rfl | rfl | h5
              · rfl
              · rfl
              · rfl
              · unfold tB
                rw [List.getD_eq_getElem?_getD, List.getElem?_append_right (by simpa using h5), List.getElem?_replicate]
                split <;> rfl
            rw [this]
            exact .any _
    refine Code.wpIn_mono ?_ (lv impCodF _ of_sb ctx.mix (some l) (3 - 1 - 1) σ' _ W σ' _ W s (Ext.refl _ _ _))
    rintro e a' W' ⟨t', H', σ'', ⟨rfl, rfl⟩, s', x'⟩
    refine ⟨x'.keeps r, ⟨x'.size, fun B hB => r.roKept x' B (xt.ro B hB)⟩, ?_, σ'', s'.rel, xt.trans x'⟩
    have : parts ss.length ≤ 501 := by unfold Go.Proofs.YtgmchiadphdlhaaGreatDoor.Chk.parts; omega
    simp only [List.length_append, List.length_singleton]
    omega
  case done =>
    rintro D xs W hD rfl ⟨_, σ', r, xt⟩ hdf
    show (Code.seq (sq1 (sq2 (sq2 (sq2 ofC)))) .ret).wpIn _ _ _ _ _ _
    have s4 : Sim glob σ' t3 (HP (nms ss) (txs ss)) a W := ⟨s3.defers, s3.size, fun j hj => (s3.tmps j hj).ext rel3 xt, r⟩
    have le := of_end (nms ss) (txs ss) (pick_len ss 1 0 _) t3 q2 q3 ql
    obtain ⟨id, ops, draw, hc, hdn, hf, _⟩ := strip_reg (show strip Tryz.prog impCodC (sq1 (sq2 (sq2 (sq2 ofC)))) = .reg [] (lrg (lq1 (lq2 (lq2 (lq2 lc28))))) from of_s6)
    have hdr : draw = false := by
      have := of_d6
      rw [hc] at this
      cases this
      rfl
    subst hdr
    obtain ⟨_, hL⟩ := hf rfl
    rw [hL] at le
    rw [s3.defers]
    refine wpIn_seq ?_
    rw [hc]
    have hwl := lops_list (l := ops.toList) (Q := nrm fun e a' w' => e = .normal ∧ a'.defers = [] ∧ ∃ t' H' σ'', aret Tryz.prog t' H' [.cell 2 29] (fun r => Fin 0 H' r (pageA (nms ss) (txs ss)) []) ∧ Sim glob σ'' t' H' a' w' ∧ Ext σ' (HP (nms ss) (txs ss)) W σ'' H' w') le σ' a W s4 (fun t' H' σ'' a' w' k1 k2 k3 => ⟨rfl, rfl, k2.defers, t', H', σ'', k1, k2, k3⟩)
    have hwd := wpList_def [{ target := .collected D, args := #[] }] (fun a' w' h => h.2.1) hwl
    refine Code.wpIn_mono ?_ (region_list (ro := none) (n := 3) hdn hwd)
    rintro e a' W2 ⟨a1, ⟨rfl, hd1, t', H', σ'', k1, k2, k3⟩, rfl⟩
    refine wpIn_ret ?_
    have hdf2 : W2.heap[D]? = some (.deferred (some [])) := (k3.keeps r).same D _ hdf rfl
    have hgr := Go.grownBy_putObj' W2 D (.deferred none)
    obtain ⟨r2, m2⟩ := k2.rel.grow hgr (fun k e => by cases e; exact ⟨_, hdf2, rfl⟩)
    have x2 : Ext σ [] w σ'' H' (W2.putObj D (.deferred none)) := (x3.trans (xt.trans k3)).grow hgr (fun k e => by cases e; exact Nat.le_trans x3.size hD)
    have s5 : Sim glob σ'' t' H' a1 (W2.putObj D (.deferred none)) := ⟨hd1, k2.size, fun j hj => m2 _ _ (k2.tmps j hj), r2⟩
    rw [← hres] at k1
    obtain ⟨rr, u, ⟨hv, hl2, hn, hh⟩, hrun, hru⟩ := aret_ok s5 k1
    refine ⟨by simp, .inl ⟨D, _, rfl, Go.run_takeDeferred hdf2, ?_⟩⟩
    refine ⟨u, hrun, u, rfl, ?_⟩
    have hcut := Res.cut ctx.nr rel r2 x2 (Nat.le_refl _) hl2 hv hru hn
    exact hcut
  case stop =>
    rintro D c pre W _ _ h _
    exact h.elim
end Go.Abs.S
namespace Go.Abs.S
attribute [local go_sem] lguard aopO aop aenv toAV tput aLoad aStore vcells aBin aNilI aUn aAlloc aBox aBuild aBSlice afill aConv isIntT aappZ aCap aArr aMM aMake aSlice bnd3 bnd aFldAddr aFld aIdxAddr aIdx aExt aLen aCopy aEq0 bAV aUb aapp aappQ agh acont List.getD_cons_zero List.getD_cons_succ List.set_cons_zero List.set_cons_succ List.getElem?_cons_zero List.getElem?_cons_succ List.length_cons List.length_nil List.map_cons List.map_nil ints_length if_true if_false Bool.false_eq_true true_and and_true eq_self ne_eq not_false_eq_true not_true_eq_false beq_self_eq_true Nat.zero_add Nat.add_zero Nat.mul_one Nat.zero_mul Int.toNat_natCast List.toList_toArray List.all_cons List.all_nil AV.one Value.oneCell' Bool.and_true Bool.true_and forall_const true_implies false_implies implies_true Option.map_some Option.map_none Option.isSome_some Option.isSome_none imp_self rdP_flat rdP_row splice_one ints_set ints_get List.append_nil List.cons_append List.nil_append List.getElem?_toArray List.drop_zero ints_drop ints_take List.take_of_length_le splice_all ints_one Option.some.injEq Option.getD_some List.length_replicate zArr List.map_replicate rep_ints splice_intsR List.length_set List.length_append List.flatten_replicate_singleton rep_slice rep_string rep_bool rep_iface List.replicate_zero if_pos if_neg List.mapM_cons List.mapM_nil Option.pure_def Option.bind_eq_bind Option.bind_some Bool.true_eq_false Bool.not_false Bool.not_true get_concat set_concat
open Go.Proofs
set_option linter.unusedVariables false
set_option linter.unusedSimpArgs false
set_option maxRecDepth 100000
set_option maxHeartbeats 4000000
theorem strs_at (l : List ByteArray) (k : Nat) (h : k < l.length) : (strs l).getD k .any = stA (l.getD k ⟨#[]⟩) := by
  simp [strs, List.getD_eq_getElem?_getD, h]
theorem stA_beq (a b : ByteArray) : (a.toList == b.toList) = decide (a = b) := by
  rw [Bool.eq_iff_iff, beq_iff_eq, decide_eq_true_eq]
  refine ⟨fun h => ?_, fun h => by rw [h]⟩
  rw [ByteArray.toList_eq, ByteArray.toList_eq] at h
  cases a; cases b
  congr 1
  exact Array.toList_inj.1 h
/-- The place of a text in a row. -/
def idxK : List ByteArray → ByteArray → Nat → Int
  | [], _, _ => -1
  | a :: l, x, k => if x = a then (k : Int) else idxK l x (k + 1)
theorem idxK_step (l : List ByteArray) (x : ByteArray) (k : Nat) (h : k < l.length) : idxK (l.drop k) x k = if x = l.getD k ⟨#[]⟩ then (k : Int) else idxK (l.drop (k + 1)) x (k + 1) := by
  rw [List.drop_eq_getElem_cons h, idxK, List.getD_eq_getElem?_getD, List.getElem?_eq_getElem h]
  rfl
theorem index_p (l : List ByteArray) (c : Option Nat) (x : ByteArray) (hl : l.length ≤ 1000) : PCall Tryz.prog glob 91 [.vsl l.length (strs l) c, stA x] (ivC (idxK l x 0)) := by
  refine PCall.of ctx.nr (List.forall_mem_cons.2 ⟨NR.vsl (NR.strs _), List.forall_mem_cons.2 ⟨NR.v _, fun _ h => absurd h List.not_mem_nil⟩⟩) (NR.v _) ?_
  refine lcall91 (by simp) 0 (Nat.le_refl _) ?_
  unfold lc91
  refine I1 tt ⟨?_⟩
  have hs := strs_length l
  obtain ⟨V, hV⟩ : ∃ V, idxK l x 0 = V := ⟨_, rfl⟩
  rw [hV]
  refine G1 F4 tt tt tt tt ⟨?_⟩
  refine lavc_loopM ms91_0 (fun m (k : Nat) => m + k = l.length ∧ idxK (l.drop k) x k = V) (fun k => [(8, ivC k)]) (fun _ => []) l.length 0 ⟨by omega, by rw [List.drop_zero]; exact hV⟩ ?_ rfl ?_
  · try unfold ms91_0
    refine A1 tt ⟨?_⟩
    rfl
  rintro m k ⟨hk, hi⟩
  try unfold ms91_0
  refine M1 tt ⟨?_⟩
  refine G1 F1 tt tt tt tt ⟨?_⟩
  refine cnd rfl (fun hc => ?_) (fun hc => ?_)
  · have hkl : k < l.length := by omega
    have hat := strs_at l k hkl
    rw [idxK_step l x k hkl] at hi
    have e3 := i64n ((k : Int) + 1) (k + 1) (by omega) (by omega)
    obtain ⟨y, hy⟩ : ∃ y, l.getD k ⟨#[]⟩ = y := ⟨_, rfl⟩
    rw [hy] at hat hi
    by_cases hx : x = y
    · rw [if_pos hx] at hi
      have q : (x.toList == y.toList) = true := by rw [stA_beq]; exact decide_eq_true hx
      refine G1 F4 (an hat (an q tt)) tt tt tt ⟨?_⟩
      refine R1 tt ⟨?_⟩
      exact end0 (NR.v _) (by rw [← hi])
    · rw [if_neg hx] at hi
      have q : (x.toList == y.toList) = false := by rw [stA_beq]; exact decide_eq_false hx
      refine G1 F4 (an hat (an q (an e3 tt))) tt tt tt ⟨?_⟩
      refine ⟨m - 1, k + 1, by omega, ⟨by omega, hi⟩, ?_, (by first | rfl | trivial)⟩
      try unfold ms91_0
      exact A0 tt
  · have hk2 : k = l.length := by omega
    rw [hk2, List.drop_length] at hi
    refine G1 F4 tt tt tt tt ⟨?_⟩
    refine R1 tt ⟨?_⟩
    exact end0 (NR.v _) (by rw [← hi]; rfl)
theorem contains_p (l : List ByteArray) (c : Option Nat) (x : ByteArray) (hl : l.length ≤ 1000) : PCall Tryz.prog glob 84 [.vsl l.length (strs l) c, stA x] (.v (.bool (decide (0 ≤ idxK l x 0)))) := by
  refine PCall.of ctx.nr (List.forall_mem_cons.2 ⟨NR.vsl (NR.strs _), List.forall_mem_cons.2 ⟨NR.v _, fun _ h => absurd h List.not_mem_nil⟩⟩) (NR.v _) ?_
  refine lcall84 (by simp) 0 (Nat.le_refl _) ?_
  unfold lc84
  refine I1 tt ⟨?_⟩
  have ip := index_p l c x hl
  refine G1 F4 tt (an ip.go tt) tt tt ⟨?_⟩
  refine R1 tt ⟨?_⟩
  exact end0 (NR.v _) rfl
/-- Does a text stand twice? -/
def twiceK (l : List ByteArray) (k : Nat) : Bool := (List.range l.length).any fun i => decide (k ≤ i) && decide (0 ≤ idxK (l.take i) (l.getD i ⟨#[]⟩) 0)
def twiceP (l : List ByteArray) : Bool := twiceK l 0
theorem twiceK_step (l : List ByteArray) (k : Nat) (h : k < l.length) : twiceK l k = (decide (0 ≤ idxK (l.take k) (l.getD k ⟨#[]⟩) 0) || twiceK l (k + 1)) := by
  unfold twiceK
  rw [Bool.eq_iff_iff]
  simp only [List.any_eq_true, List.mem_range, Bool.and_eq_true, decide_eq_true_eq, Bool.or_eq_true]
  constructor
  · rintro ⟨i, h1, h2, h3⟩
    by_cases e : i = k
    · subst e
      exact .inl h3
    · exact .inr ⟨i, h1, by omega, h3⟩
  · rintro (h1 | ⟨i, h1, h2, h3⟩)
    · exact ⟨k, h, Nat.le_refl _, h1⟩
    · exact ⟨i, h1, by omega, h3⟩
theorem twiceK_end (l : List ByteArray) : twiceK l l.length = false := by
  unfold twiceK
  rw [List.any_eq_false]
  intro i hi
  rw [List.mem_range] at hi
  simp
  omega
theorem twice_p (l : List ByteArray) (c : Option Nat) (hl : l.length ≤ 1000) : PCall Tryz.prog glob 66 [.vsl l.length (strs l) c] (.v (.bool (twiceP l))) := by
  refine PCall.of ctx.nr (List.forall_mem_cons.2 ⟨NR.vsl (NR.strs _), fun _ h => absurd h List.not_mem_nil⟩) (NR.v _) ?_
  refine lcall66 (by simp) 0 (Nat.le_refl _) ?_
  unfold lc66
  refine I1 tt ⟨?_⟩
  have hs := strs_length l
  obtain ⟨V, hV⟩ : ∃ V, twiceP l = V := ⟨_, rfl⟩
  rw [hV]
  refine G1 F4 tt tt tt tt ⟨?_⟩
  refine lavc_loopM ms66_0 (fun m (k : Nat) => m + k = l.length ∧ twiceK l k = V) (fun k => [(7, ivC k)]) (fun _ => []) l.length 0 ⟨by omega, hV⟩ ?_ rfl ?_
  · try unfold ms66_0
    refine A1 tt ⟨?_⟩
    rfl
  rintro m k ⟨hk, hi⟩
  try unfold ms66_0
  refine M1 tt ⟨?_⟩
  refine G1 F1 tt tt tt tt ⟨?_⟩
  refine cnd rfl (fun hc => ?_) (fun hc => ?_)
  · have hkl : k < l.length := by omega
    have hat := strs_at l k hkl
    rw [twiceK_step l k hkl] at hi
    have e3 := i64n ((k : Int) + 1) (k + 1) (by omega) (by omega)
    obtain ⟨y, hy⟩ : ∃ y, l.getD k ⟨#[]⟩ = y := ⟨_, rfl⟩
    rw [hy] at hat hi
    have htk : List.take k (strs l) = strs (l.take k) := by simp [strs, List.map_take]
    have hln : (l.take k).length = k := by rw [List.length_take]; omega
    have cp := fun c => contains_p (l.take k) c y (by omega)
    rw [hln] at cp
    obtain ⟨w, hw⟩ : ∃ w, decide (0 ≤ idxK (l.take k) y 0) = w := ⟨_, rfl⟩
    rw [hw] at cp hi
    cases w with
    | true =>
      repeat (first
        | (with_reducible refine lops_step fun K hK => ?_; simp (disch := first | exact dch | fail) only [go_sem, Nat.reduceAdd, Nat.reduceSub, reduceIte, Nat.reduceEqDiff, Int.reduceToNat, Int.reduceBEq, Int.reduceBNe, hat, htk, Nat.mul_one, Nat.sub_zero]; (try (first | (refine And.intro (fun _ => ?_) (fun h => absurd h (by decide))) | (refine And.intro (fun h => absurd h (by decide)) (fun _ => ?_)))); (repeat (with_reducible refine And.intro acl ?_)); (first | (refine hK _ _ ?_) | (refine ⟨_, rfl, hK _ _ ?_⟩) | (refine Or.inl (hK _ _ ?_)) | (refine ⟨_, _, Or.inl ((cp _).go _), (by first | exact ⟨[], (List.append_nil _).symm⟩ | exact ⟨_, rfl⟩), hK _ _ ?_⟩) | (refine ⟨_, _, Or.inl ((cp _).go _), hK _ _ ?_⟩) | (refine ⟨_, _, Or.inl ((cp _).go _).weakQ, hK _ _ ?_⟩)); clear hK K)
        | (with_reducible refine lops_nil ?_)
        | (with_reducible first | refine lavc_reg ?_ | refine lavc_seq ?_ | refine lavc_block ?_ | refine lavc_skip ?_ | refine lavc_exit ?_ | refine lavc_ret ?_ | refine lavcR_round ?_)
        | (refine lavc_cond rfl (fun _ => ?_) (fun hc => absurd hc (by decide)))
        | (refine lavc_cond rfl (fun hc => absurd hc (by decide)) (fun _ => ?_))
        | (simp only [↓reduceIte, Nat.reduceEqDiff, reduceCtorEq]))
      refine R1 tt ⟨?_⟩
      exact end0 (NR.v _) (by rw [← hi]; rfl)
    | false =>
      rw [Bool.false_or] at hi
      repeat (first
        | (with_reducible refine lops_step fun K hK => ?_; simp (disch := first | exact dch | fail) only [go_sem, Nat.reduceAdd, Nat.reduceSub, reduceIte, Nat.reduceEqDiff, Int.reduceToNat, Int.reduceBEq, Int.reduceBNe, hat, htk, Nat.mul_one, Nat.sub_zero, e3]; (try (first | (refine And.intro (fun _ => ?_) (fun h => absurd h (by decide))) | (refine And.intro (fun h => absurd h (by decide)) (fun _ => ?_)))); (repeat (with_reducible refine And.intro acl ?_)); (first | (refine hK _ _ ?_) | (refine ⟨_, rfl, hK _ _ ?_⟩) | (refine Or.inl (hK _ _ ?_)) | (refine ⟨_, _, Or.inl ((cp _).go _), (by first | exact ⟨[], (List.append_nil _).symm⟩ | exact ⟨_, rfl⟩), hK _ _ ?_⟩) | (refine ⟨_, _, Or.inl ((cp _).go _), hK _ _ ?_⟩) | (refine ⟨_, _, Or.inl ((cp _).go _).weakQ, hK _ _ ?_⟩)); clear hK K)
        | (with_reducible refine lops_nil ?_)
        | (with_reducible first | refine lavc_reg ?_ | refine lavc_seq ?_ | refine lavc_block ?_ | refine lavc_skip ?_ | refine lavc_exit ?_ | refine lavc_ret ?_ | refine lavcR_round ?_)
        | (refine lavc_cond rfl (fun _ => ?_) (fun hc => absurd hc (by decide)))
        | (refine lavc_cond rfl (fun hc => absurd hc (by decide)) (fun _ => ?_))
        | (simp only [↓reduceIte, Nat.reduceEqDiff, reduceCtorEq]))
      refine ⟨m - 1, k + 1, by omega, ⟨by omega, hi⟩, ?_, (by first | rfl | trivial)⟩
      try unfold ms66_0
      exact A0 tt
  · have hk2 : k = l.length := by omega
    rw [hk2, twiceK_end] at hi
    refine G1 F4 tt tt tt tt ⟨?_⟩
    refine R1 tt ⟨?_⟩
    exact end0 (NR.v _) (by rw [← hi])
theorem notv_p (s : ByteArray) (h : s.size ≤ 9223372036854775807) : PCall Tryz.prog glob 90 [stA s] (.v (.bool (!validP s))) := by
  refine PCall.of ctx.nr nrs (NR.v _) ?_
  refine lcall90 (by simp) 0 (Nat.le_refl _) ?_
  unfold lc90
  refine I1 tt ⟨?_⟩
  have vp := valid_p s h
  refine G1 F4 tt (an vp.go tt) tt tt ⟨?_⟩
  refine R1 tt ⟨?_⟩
  exact end0 (NR.v _) rfl
/-- The place of the first text that is not UTF-8. -/
def ifK : List ByteArray → Nat → Int
  | [], _ => -1
  | a :: l, k => if validP a then ifK l (k + 1) else (k : Int)
theorem ifK_step (l : List ByteArray) (k : Nat) (h : k < l.length) : ifK (l.drop k) k = if validP (l.getD k ⟨#[]⟩) then ifK (l.drop (k + 1)) (k + 1) else (k : Int) := by
  rw [List.drop_eq_getElem_cons h, ifK, List.getD_eq_getElem?_getD, List.getElem?_eq_getElem h]
  rfl
theorem ifK_all : ∀ (l : List ByteArray) (k : Nat), decide (0 ≤ ifK l k) = !(l.all validP)
  | [], k => rfl
  | a :: l, k => by
    rw [ifK, List.all_cons]
    cases hv : validP a with
    | true =>
      rw [if_pos rfl, ifK_all l (k + 1), Bool.true_and]
    | false =>
      rw [if_neg (by decide), Bool.false_and]
      simp
theorem fnA_nr : NR (.fn (.func 90) []) := fun σ w u h => by
  cases h with
  | fn us hl ha => exact .fn us hl (fun j hj => absurd hj (Nat.not_lt_zero _))
theorem ixf_p (l : List ByteArray) (c : Option Nat) (hl : l.length ≤ 1000) (hz : ∀ s ∈ l, s.size ≤ 9223372036854775807) : PCall Tryz.prog glob 110 [.vsl l.length (strs l) c, .fn (.func 90) []] (ivC (ifK l 0)) := by
  refine PCall.of ctx.nr (List.forall_mem_cons.2 ⟨NR.vsl (NR.strs _), List.forall_mem_cons.2 ⟨fnA_nr, fun _ h => absurd h List.not_mem_nil⟩⟩) (NR.v _) ?_
  refine lcall110 (by simp) 0 (Nat.le_refl _) ?_
  unfold lc110
  refine I1 tt ⟨?_⟩
  have hs := strs_length l
  obtain ⟨V, hV⟩ : ∃ V, ifK l 0 = V := ⟨_, rfl⟩
  rw [hV]
  refine G1 F4 tt tt tt tt ⟨?_⟩
  refine lavc_loopM ms110_0 (fun m (k : Nat) => m + k = l.length ∧ ifK (l.drop k) k = V) (fun k => [(8, ivC k)]) (fun _ => []) l.length 0 ⟨by omega, by rw [List.drop_zero]; exact hV⟩ ?_ rfl ?_
  · try unfold ms110_0
    refine A1 tt ⟨?_⟩
    rfl
  rintro m k ⟨hk, hi⟩
  try unfold ms110_0
  refine M1 tt ⟨?_⟩
  refine G1 F1 tt tt tt tt ⟨?_⟩
  refine cnd rfl (fun hc => ?_) (fun hc => ?_)
  · have hkl : k < l.length := by omega
    have hat := strs_at l k hkl
    rw [ifK_step l k hkl] at hi
    have e3 := i64n ((k : Int) + 1) (k + 1) (by omega) (by omega)
    have hys : (l.getD k ⟨#[]⟩).size ≤ 9223372036854775807 := by
      rw [List.getD_eq_getElem?_getD, List.getElem?_eq_getElem hkl]
      exact hz _ (List.getElem_mem hkl)
    obtain ⟨y, hy⟩ : ∃ y, l.getD k ⟨#[]⟩ = y := ⟨_, rfl⟩
    rw [hy] at hat hi hys
    have np := notv_p y hys
    cases hv : validP y with
    | true =>
      rw [hv] at hi np
      rw [if_pos rfl] at hi
      have np : PCall Tryz.prog glob 90 [stA y] (.v (.bool false)) := np
      refine G1 F4 (an hat (an e3 tt)) (an np.go tt) tt tt ⟨?_⟩
      refine ⟨m - 1, k + 1, by omega, ⟨by omega, hi⟩, ?_, (by first | rfl | trivial)⟩
      try unfold ms110_0
      exact A0 tt
    | false =>
      rw [hv] at hi np
      rw [if_neg (by decide)] at hi
      have np : PCall Tryz.prog glob 90 [stA y] (.v (.bool true)) := np
      refine G1 F4 (an hat (an e3 tt)) (an np.go tt) tt tt ⟨?_⟩
      refine R1 tt ⟨?_⟩
      exact end0 (NR.v _) (by rw [← hi])
  · have hk2 : k = l.length := by omega
    rw [hk2, List.drop_length] at hi
    refine G1 F4 tt tt tt tt ⟨?_⟩
    refine R1 tt ⟨?_⟩
    exact end0 (NR.v _) (by rw [← hi]; rfl)
theorem ctf_p (l : List ByteArray) (c : Option Nat) (hl : l.length ≤ 1000) (hz : ∀ s ∈ l, s.size ≤ 9223372036854775807) : PCall Tryz.prog glob 89 [.vsl l.length (strs l) c, .fn (.func 90) []] (.v (.bool (!(l.all validP)))) := by
  refine PCall.of ctx.nr (List.forall_mem_cons.2 ⟨NR.vsl (NR.strs _), List.forall_mem_cons.2 ⟨fnA_nr, fun _ h => absurd h List.not_mem_nil⟩⟩) (NR.v _) ?_
  refine lcall89 (by simp) 0 (Nat.le_refl _) ?_
  unfold lc89
  refine I1 tt ⟨?_⟩
  have ip := ixf_p l c hl hz
  rw [← ifK_all l 0]
  refine G1 F4 tt (an ip.go tt) tt tt ⟨?_⟩
  refine R1 tt ⟨?_⟩
  exact end0 (NR.v _) rfl
end Go.Abs.S
namespace Go.Abs.S
attribute [local go_sem] lguard aopO aop aenv toAV tput aLoad aStore vcells aBin aNilI aUn aAlloc aBox aBuild aBSlice afill aConv isIntT aappZ aCap aArr aMM aMake aSlice bnd3 bnd aFldAddr aFld aIdxAddr aIdx aExt aLen aCopy aEq0 bAV aUb aapp aappQ agh acont List.getD_cons_zero List.getD_cons_succ List.set_cons_zero List.set_cons_succ List.getElem?_cons_zero List.getElem?_cons_succ List.length_cons List.length_nil List.map_cons List.map_nil ints_length if_true if_false Bool.false_eq_true true_and and_true eq_self ne_eq not_false_eq_true not_true_eq_false beq_self_eq_true Nat.zero_add Nat.add_zero Nat.mul_one Nat.zero_mul Int.toNat_natCast List.toList_toArray List.all_cons List.all_nil AV.one Value.oneCell' Bool.and_true Bool.true_and forall_const true_implies false_implies implies_true Option.map_some Option.map_none Option.isSome_some Option.isSome_none imp_self rdP_flat rdP_row splice_one ints_set ints_get List.append_nil List.cons_append List.nil_append List.getElem?_toArray List.drop_zero ints_drop ints_take List.take_of_length_le splice_all ints_one Option.some.injEq Option.getD_some List.length_replicate zArr List.map_replicate rep_ints splice_intsR List.length_set List.length_append List.flatten_replicate_singleton rep_slice rep_string rep_bool rep_iface List.replicate_zero if_pos if_neg List.mapM_cons List.mapM_nil Option.pure_def Option.bind_eq_bind Option.bind_some Bool.true_eq_false Bool.not_false Bool.not_true get_concat set_concat
open Go.Proofs
set_option linter.unusedVariables false
set_option linter.unusedSimpArgs false
set_option maxRecDepth 100000
set_option maxHeartbeats 4000000
abbrev textA (s : ByteArray) : AV := .agg (valT s)
theorem NR.textA (s : ByteArray) : NR (textA s) := NR.agg (by
  intro x hx
  simp only [valT, List.mem_cons, List.not_mem_nil, or_false] at hx
  rcases hx with rfl | rfl | rfl | rfl <;> exact NR.v _)
theorem formT_p (s : ByteArray) (h : s.size ≤ 9223372036854775807) : PCall Tryz.prog glob 65 [textA s] (.v (.bool (validP s))) := by
  refine PCall.of ctx.nr (List.forall_mem_cons.2 ⟨NR.textA s, fun _ h => absurd h List.not_mem_nil⟩) (NR.v _) ?_
  refine lcall65 (by simp) 0 (Nat.le_refl _) ?_
  unfold textA valT
  unfold lc65
  refine I1 tt ⟨?_⟩
  have vp := valid_p s h
  refine G1 F4 tt (an vp.go tt) tt tt ⟨?_⟩
  refine R1 tt ⟨?_⟩
  exact end0 (NR.v _) rfl
theorem goodT_p (s : ByteArray) (h : s.size ≤ 9223372036854775807) : PCall Tryz.prog glob 35 [textA s, ivC 2] (ivC (if validP s then 0 else 2)) := by
  refine PCall.of ctx.nr (List.forall_mem_cons.2 ⟨NR.textA s, List.forall_mem_cons.2 ⟨NR.v _, fun _ h => absurd h List.not_mem_nil⟩⟩) (NR.v _) ?_
  refine lcall35 (by simp) 0 (Nat.le_refl _) ?_
  unfold textA valT
  unfold lc35
  refine I1 tt ⟨?_⟩
  have fp : PCall Tryz.prog glob 65 [.agg [ivC 4, stA s, nlA, nlA]] (.v (.bool (validP s))) := formT_p s h
  have tp : PCall Tryz.prog glob 66 [.v (.slice none 0 0)] (.v (.bool false)) := (twice_p [] none (by decide)).les (args := [.v (.slice none 0 0)]) ⟨AvLe.nil, trivial⟩
  cases hv : validP s with
  | false =>
    rw [hv] at fp
    refine G1 F4 tt (an fp.go tt) tt tt ⟨?_⟩
    refine R1 tt ⟨?_⟩
    exact end0 (NR.v _) rfl
  | true =>
    rw [hv] at fp
    refine G1 F4 tt (an fp.go (an tp.go tt)) tt tt ⟨?_⟩
    refine lavc_rounds 1 ?_
    refine G1 F4 tt tt tt tt ⟨?_⟩
    refine R1 tt ⟨?_⟩
    exact end0 (NR.v _) rfl
theorem vals_at (X : List ByteArray) (k : Nat) (h : k < X.length) : ((vals X).drop (k * 4)).take 4 = valT (X.getD k ⟨#[]⟩) := by
  induction X generalizing k with
  | nil => exact absurd h (Nat.not_lt_zero _)
  | cons a X ih =>
    have e : vals (a :: X) = valT a ++ vals X := rfl
    have hl : (valT a).length = 4 := rfl
    rw [e]
    cases k with
    | zero => simp [valT]
    | succ k =>
      rw [show (k + 1) * 4 = k * 4 + 1 + 1 + 1 + 1 from by omega]
      have := ih k (by simpa using h)
      simp only [valT, List.cons_append, List.nil_append, List.drop_succ_cons] at this ⊢
      simpa using this
theorem formP_p (N X : List ByteArray) (hX : X.length = N.length) (hl : N.length ≤ 1000) (hz : ∀ s ∈ N, s.size ≤ 9223372036854775807) : PCall Tryz.prog glob 65 [pageA N X] (.v (.bool (N.all validP))) := by
  refine PCall.of ctx.nr (List.forall_mem_cons.2 ⟨NR.pageA N X, fun _ h => absurd h List.not_mem_nil⟩) (NR.v _) ?_
  refine lcall65 (by simp) 0 (Nat.le_refl _) ?_
  unfold pageA
  unfold lc65
  refine I1 tt ⟨?_⟩
  have cf := fun c => ctf_p N c hl hz
  obtain ⟨w, hw⟩ : ∃ w, N.all validP = w := ⟨_, rfl⟩
  rw [hw] at cf ⊢
  have q1 : (((N.length : Nat) : Int) == ((N.length : Nat) : Int)) = true := by simp
  repeat (first
    | (with_reducible refine lops_step fun K hK => ?_; simp (disch := first | exact dch | fail) only [go_sem, Nat.reduceAdd, Nat.reduceSub, reduceIte, Nat.reduceEqDiff, Int.reduceToNat, Int.reduceBEq, Int.reduceBNe, q1, Bool.not_not]; (try (first | (refine And.intro (fun _ => ?_) (fun h => absurd h (by decide))) | (refine And.intro (fun h => absurd h (by decide)) (fun _ => ?_)))); (repeat (with_reducible refine And.intro acl ?_)); (first | (refine hK _ _ ?_) | (refine ⟨_, rfl, hK _ _ ?_⟩) | (refine Or.inl (hK _ _ ?_)) | (refine ⟨_, _, Or.inl ((cf _).go _), (by first | exact ⟨[], (List.append_nil _).symm⟩ | exact ⟨_, rfl⟩), hK _ _ ?_⟩) | (refine ⟨_, _, Or.inl ((cf _).go _), hK _ _ ?_⟩) | (refine ⟨_, _, Or.inl ((cf _).go _).weakQ, hK _ _ ?_⟩)); clear hK K)
    | (with_reducible refine lops_nil ?_)
    | (with_reducible first | refine lavc_reg ?_ | refine lavc_seq ?_ | refine lavc_block ?_ | refine lavc_skip ?_ | refine lavc_exit ?_ | refine lavc_ret ?_ | refine lavcR_round ?_)
    | (refine lavc_cond rfl (fun _ => ?_) (fun hc => absurd hc (by decide)))
    | (refine lavc_cond rfl (fun hc => absurd hc (by decide)) (fun _ => ?_))
    | (simp only [↓reduceIte, Nat.reduceEqDiff, reduceCtorEq]))
  refine R1 tt ⟨?_⟩
  exact end0 (NR.v _) (by simp)
/-- What is wrong with a page of texts. -/
def goodPg (N X : List ByteArray) : Int := if N.all validP = false then 2 else if 64 < N.length then 11 else if twiceP N = true then 10 else if X.all validP = true then 0 else 2
theorem goodP_p (N X : List ByteArray) (hX : X.length = N.length) (hl : N.length ≤ 1000) (hz : ∀ s ∈ N, s.size ≤ 9223372036854775807) (hx : ∀ s ∈ X, s.size ≤ 9223372036854775807) : PCall Tryz.prog glob 35 [pageA N X, ivC 1] (ivC (goodPg N X)) := by
  refine PCall.of ctx.nr (List.forall_mem_cons.2 ⟨NR.pageA N X, List.forall_mem_cons.2 ⟨NR.v _, fun _ h => absurd h List.not_mem_nil⟩⟩) (NR.v _) ?_
  refine lcall35 (by simp) 0 (Nat.le_refl _) ?_
  have fp := formP_p N X hX hl hz
  have tp := fun c => twice_p N c hl
  have hlx := vals_length X
  rw [hX] at hlx
  unfold pageA at fp ⊢
  unfold lc35
  refine I1 tt ⟨?_⟩
  unfold goodPg
  cases hv : N.all validP with
  | false =>
    rw [hv] at fp
    rw [if_pos rfl]
    refine G1 F4 tt (an fp.go tt) tt tt ⟨?_⟩
    refine R1 tt ⟨?_⟩
    exact end0 (NR.v _) rfl
  | true =>
    rw [hv] at fp
    rw [if_neg (by decide)]
    by_cases h64 : 64 < N.length
    · rw [if_pos h64]
      have d1 : decide ((N.length : Int) > 64) = true := by rw [decide_eq_true_eq]; omega
      refine G1 F4 (an d1 tt) (an fp.go tt) tt tt ⟨?_⟩
      refine R1 tt ⟨?_⟩
      exact end0 (NR.v _) rfl
    rw [if_neg h64]
    have d1 : decide ((N.length : Int) > 64) = false := by rw [decide_eq_false_iff_not]; omega
    cases ht : twiceP N with
    | true =>
      rw [ht] at tp
      rw [if_pos rfl]
      refine G1 F4 (an d1 tt) (an fp.go tt) (an (fun u => (tp u).go) tt) tt ⟨?_⟩
      refine R1 tt ⟨?_⟩
      exact end0 (NR.v _) rfl
    | false =>
      rw [ht] at tp
      rw [if_neg (by decide)]
      obtain ⟨V, hV⟩ : ∃ V : Int, (if X.all validP = true then (0 : Int) else 2) = V := ⟨_, rfl⟩
      rw [hV]
      refine G1 F4 (an d1 tt) (an fp.go tt) (an (fun u => (tp u).go) tt) tt ⟨?_⟩
      refine lavc_loopM ms35_0 (fun m (x : Nat × AHeap) => m + x.1 = N.length ∧ (if (X.drop x.1).all validP = true then (0 : Int) else 2) = V) (fun x => [(27, ivC x.1)]) (fun x => [Blk.mk [ivC 6, stA ⟨#[]⟩, .vsl N.length (strs N) none, .vsl N.length (vals X) none] 0 true 29] ++ x.2) N.length (0, []) ⟨by omega, by rw [List.drop_zero]; exact hV⟩ ?_ ?_ ?_
      · try unfold ms35_0
        refine A1 tt ⟨?_⟩
        rfl
      · rfl
      rintro m ⟨k, gg⟩ ⟨hk, hi⟩
      simp only at hk hi ⊢
      try unfold ms35_0
      refine M1 tt ⟨?_⟩
      refine G1 F1 tt tt tt tt ⟨?_⟩
      refine cnd rfl (fun hc => ?_) (fun hc => ?_)
      · have hkl : k < X.length := by omega
        have hat := vals_at X k hkl
        have hys : (X.getD k ⟨#[]⟩).size ≤ 9223372036854775807 := by
          rw [List.getD_eq_getElem?_getD, List.getElem?_eq_getElem hkl]
          exact hx _ (List.getElem_mem hkl)
        have hdr : (X.drop k).all validP = (validP (X.getD k ⟨#[]⟩) && (X.drop (k + 1)).all validP) := by
          rw [List.drop_eq_getElem_cons hkl, List.all_cons, List.getD_eq_getElem?_getD, List.getElem?_eq_getElem hkl]
          rfl
        rw [hdr] at hi
        obtain ⟨y, hy⟩ : ∃ y, X.getD k ⟨#[]⟩ = y := ⟨_, rfl⟩
        rw [hy] at hat hys hi
        have gt := goodT_p y hys
        have e3 := i64n ((k : Int) + 1) (k + 1) (by omega) (by omega)
        have e2 : IntKind.i64.wrap (1 + 1) = 2 := by decide
        unfold textA valT at gt
        unfold valT at hat
        cases hvy : validP y with
        | true =>
          rw [hvy] at hi gt
          have gt : PCall Tryz.prog glob 35 [.agg [ivC 4, stA y, nlA, nlA], ivC 2] (ivC 0) := gt
          refine G1 F4 (an hat (an hlx (an e2 (an e3 tt)))) (an gt.go tt) tt tt ⟨?_⟩
          refine ⟨m - 1, (k + 1, gg ++ [⟨[ivC 4, stA y, nlA, nlA], 0, true, 29⟩]), by omega, ⟨by show m - 1 + (k + 1) = N.length; omega, by rw [← hi, Bool.true_and]⟩, ?_, (by first | rfl | trivial)⟩
          try unfold ms35_0
          exact A0 tt
        | false =>
          rw [hvy] at hi gt
          have gt : PCall Tryz.prog glob 35 [.agg [ivC 4, stA y, nlA, nlA], ivC 2] (ivC 2) := gt
          refine G1 F4 (an hat (an hlx (an e2 (an e3 tt)))) (an gt.go tt) tt tt ⟨?_⟩
          refine R1 tt ⟨?_⟩
          exact end0 (NR.v _) (by rw [← hi]; rfl)
      · have hk2 : k = X.length := by omega
        rw [hk2, List.drop_length] at hi
        refine G1 F4 tt tt tt tt ⟨?_⟩
        refine R1 tt ⟨?_⟩
        exact end0 (NR.v _) (by rw [← hi]; rfl)
theorem Good_p (N X : List ByteArray) (hX : X.length = N.length) (hl : N.length ≤ 1000) (hz : ∀ s ∈ N, s.size ≤ 9223372036854775807) (hx : ∀ s ∈ X, s.size ≤ 9223372036854775807) : PCall Tryz.prog glob 19 [pageA N X] (ivC (goodPg N X)) := by
  refine PCall.of ctx.nr (List.forall_mem_cons.2 ⟨NR.pageA N X, fun _ h => absurd h List.not_mem_nil⟩) (NR.v _) ?_
  refine lcall19 (by simp) 0 (Nat.le_refl _) ?_
  have gp := goodP_p N X hX hl hz hx
  unfold pageA at gp ⊢
  unfold lc19
  refine I1 tt ⟨?_⟩
  refine G1 F4 tt (an gp.go tt) tt tt ⟨?_⟩
  refine R1 tt ⟨?_⟩
  exact end0 (NR.v _) rfl
/-- A name's value. -/
def getA (N X : List ByteArray) (name : ByteArray) : AV := if idxK N name 0 < 0 then .tup [.agg [ivC 0, stA ⟨#[]⟩, nlA, nlA], .v (.bool false)] else .tup [textA (X.getD (idxK N name 0).toNat ⟨#[]⟩), .v (.bool true)]
theorem idxK_lt : ∀ (l : List ByteArray) (x : ByteArray) (k : Nat), idxK l x k < ((k + l.length : Nat) : Int) ∧ (idxK l x k = -1 ∨ (k : Int) ≤ idxK l x k)
  | [], x, k => ⟨by simp only [idxK]; omega, .inl rfl⟩
  | a :: l, x, k => by
    have ih := idxK_lt l x (k + 1)
    unfold idxK
    rw [List.length_cons]
    split
    · exact ⟨by omega, .inr (Int.le_refl _)⟩
    · exact ⟨by omega, ih.2.imp id (by omega)⟩
theorem get_p (N X : List ByteArray) (hX : X.length = N.length) (hl : N.length ≤ 1000) (name : ByteArray) : PCall Tryz.prog glob 67 [pageA N X, stA name] (getA N X name) := by
  have hnr : NR (getA N X name) := by
    unfold getA
    split
    · exact NR.tup (by intro c hc; simp at hc; rcases hc with rfl | rfl; exact NR.agg (by intro c hc; simp at hc; rcases hc with rfl | rfl | rfl <;> exact NR.v _); exact NR.v _)
    · exact NR.tup (by intro c hc; simp at hc; rcases hc with rfl | rfl; exact NR.textA _; exact NR.v _)
  refine PCall.of ctx.nr (List.forall_mem_cons.2 ⟨NR.pageA N X, List.forall_mem_cons.2 ⟨NR.v _, fun _ h => absurd h List.not_mem_nil⟩⟩) hnr ?_
  refine lcall67 (by simp) 0 (Nat.le_refl _) ?_
  have ip := fun c => index_p N c name hl
  have hlt := idxK_lt N name 0
  have hlx := vals_length X
  rw [hX] at hlx
  unfold getA at hnr ⊢
  obtain ⟨i, hi⟩ : ∃ i, idxK N name 0 = i := ⟨_, rfl⟩
  rw [hi] at ip hlt hnr ⊢
  unfold pageA
  unfold lc67
  refine I1 tt ⟨?_⟩
  by_cases h0 : i < 0
  · rw [if_pos h0] at hnr ⊢
    have d0 : decide (i < 0) = true := by rw [decide_eq_true_eq]; omega
    refine G1 F4 (an d0 tt) tt (an (fun u => (ip u).go) tt) tt ⟨?_⟩
    refine R1 tt ⟨?_⟩
    exact end0 hnr rfl
  · rw [if_neg h0] at hnr ⊢
    have d0 : decide (i < 0) = false := by rw [decide_eq_false_iff_not]; omega
    obtain ⟨k, rfl⟩ := Int.eq_ofNat_of_zero_le (show 0 ≤ i by omega)
    have hkl : k < X.length := by omega
    have d1 : decide ((k : Int) ≥ (N.length : Int)) = false := by rw [decide_eq_false_iff_not]; omega
    have hat := vals_at X k hkl
    rw [Int.toNat_natCast] at hnr ⊢
    obtain ⟨y, hy⟩ : ∃ y, X.getD k ⟨#[]⟩ = y := ⟨_, rfl⟩
    rw [hy] at hat hnr ⊢
    unfold textA at hnr ⊢
    unfold valT at hat hnr ⊢
    refine G1 F4 (an d0 (an d1 (an hat (an hlx tt)))) tt (an (fun u => (ip u).go) tt) tt ⟨?_⟩
    refine R1 tt ⟨?_⟩
    exact end0 hnr rfl
end Go.Abs.S
