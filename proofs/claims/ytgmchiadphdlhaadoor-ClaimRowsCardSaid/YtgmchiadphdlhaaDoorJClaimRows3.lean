/- Arguments whose type holds itself: values as trees. Closed facts on the types of this seat's program. Code, as it is looked at; written by wip/leancode.py. Ways that meet again further on. utf8.ValidS -/
import Derived.Test.YtgmchiadphdlhaaDoorJClaimRows2
import Derived.Test.YtgmchiadphdlhaaDoorProg
import Derived.KernelRfl
import GoSem.PinnedTables
import Derived.Laws.Strings
import Derived.WideShapes
import Derived.RangeFuncNested
import Derived.RangeFuncBound
import Derived.RangeFuncCalls
import Derived.RangeFuncLeaves
import Derived.RangeFuncBox
import Derived.Shelf.Abstract
import Derived.Shelf.RegionOpen
import Derived.WalkKit
import Derived.OwnWalkIn
import Derived.TacticsInMore
import Derived.LoopNIn
import Derived.LoopIn
namespace Go.Abs
open Go.Deep
set_option linter.unusedVariables false
set_option linter.unusedSimpArgs false
variable {P : Program} {H : Type} {enc : TypeId × Value → H} {w : World} {spare : Nat → Bool} {held : Bool}
/-- Data read at that fuel. -/
def Rd.At {α : Type} (r : Rd α) (f : Nat) (enc : TypeId × Value → H) (P : Program) (w : World) (spare : Nat → Bool) (held : Bool) (t : TypeId) : Prop :=
  ∀ cs x, DataW.trod enc P w 0 spare held f t cs = some x → ∃ y, r.wf y ∧ cs.length = r.sz ∧ ∀ j, j < r.sz → AR (lawSig w) w ((r.av y).getD j .any) (cs.getD j undef)
theorem Rd.Is.at {α : Type} {r : Rd α} {t : TypeId} (h : r.Is enc P w spare held t) (f : Nat) : r.At f enc P w spare held t := fun cs x hx => by
  obtain ⟨y, h1, h2, h3, _⟩ := h f cs x hx
  exact ⟨y, h1, h2, h3⟩
theorem Rd.slice_at {α : Type} [Inhabited α] {r : Rd α} {e t : TypeId} {f : Nat} (ht : P.underlying t = some (.slice e)) (hsz : P.cellsOf e = r.sz) (hpos : 0 < r.sz) (hel : ∀ n, f = n + 1 → r.At n enc P w spare held e) : r.slice.At f enc P w spare held t := by
  intro cs x h
  rcases DataW.trod_slice ht h with ⟨rfl, _⟩ | ⟨a, len, cap, elems, rest, n, hf, rfl, rfl, hb, hl, hm, hlen, hx, hsp, hns⟩
  · refine ⟨[], ⟨by simp, by simp⟩, rfl, fun j hj => ?_⟩
    obtain rfl : j = 0 := by have : j < 1 := hj; omega
    exact .vsl0 _ _ (fun c hc => by cases hc)
  · have hc : ∀ i, i < len → ∃ y, r.wf y ∧ ∀ j, j < r.sz → ∃ u, w.cell? (a.add (i * r.sz + j)) = some u ∧ AR (lawSig w) w ((r.av y).getD j .any) u := by
      intro i hi
      have h0 := hx i hi
      rw [List.getElem?_eq_getElem (by omega)] at h0
      obtain ⟨cs', h1, h2⟩ := Option.bind_eq_some_iff.1 h0
      obtain ⟨y, hw, hlen, har⟩ := hel n hf _ _ h2
      obtain ⟨_, _, hcell⟩ := World.cells?_some h1
      refine ⟨y, hw, fun j hj => ⟨cs'.getD j undef, ?_, har j hj⟩⟩
      have := hcell j (by omega)
      rw [hsz] at this
      have e : a.add (i * r.sz + j) = (a.add (i * r.sz)).add j := by
        unfold Addr.add
        by_cases h1 : i * r.sz = 0 <;> by_cases h2 : j = 0 <;> simp [h1, h2]
        omega
      rw [e, this, List.getD_eq_getElem?_getD, List.getElem?_eq_getElem (by omega)]
      rfl
    obtain ⟨V, hV⟩ := choose_lt (α := α) (p := fun i y => r.wf y ∧ ∀ j, j < r.sz → ∃ u, w.cell? (a.add (i * r.sz + j)) = some u ∧ AR (lawSig w) w ((r.av y).getD j .any) u) hc
    have hwf : ∀ y ∈ (List.range len).map V, r.wf y := fun y hy => by
      simp only [List.mem_map, List.mem_range] at hy
      obtain ⟨i, hi, rfl⟩ := hy
      exact (hV i hi).1
    refine ⟨(List.range len).map V, ⟨by simp; omega, hwf⟩, rfl, fun j hj => ?_⟩
    obtain rfl : j = 0 := by have : j < 1 := hj; omega
    show AR (lawSig w) w (.vsl ((List.range len).map V).length (((List.range len).map V).flatMap r.av) none) (.slice (some a) len cap)
    have hll : ((List.range len).map V).length = len := by simp
    have hfl : (((List.range len).map V).flatMap r.av).length = len * r.sz := by
      have := (r.arr len).len ((List.range len).map V) ⟨hll, hwf⟩
      exact this
    rw [hll]
    have key : ∀ j, j < len * r.sz → ∃ u, w.cell? (a.add j) = some u ∧ AR (lawSig w) w ((((List.range len).map V).flatMap r.av).getD j .any) u := by
      intro j hj
      obtain ⟨i, y, h1, h2, h3, h4, h5⟩ := flat_at r ((List.range len).map V) j hwf (by rw [hll]; exact hj)
      rw [hll] at h1
      obtain rfl : V i = y := by simpa [h1] using h2
      obtain ⟨u, g1, g2⟩ := (hV i h1).2 _ h4
      refine ⟨u, by rw [h3]; exact g1, ?_⟩
      rw [List.getD_eq_getElem?_getD, h5, ← List.getD_eq_getElem?_getD]
      exact g2
    by_cases h0 : len * r.sz = 0
    · have : len = 0 := (Nat.mul_eq_zero.1 h0).resolve_right (by omega)
      subst this
      exact .vsl0 _ _ (fun c hc => by cases hc)
    · obtain ⟨u0, c0, _⟩ := key 0 (by omega)
      obtain ⟨ab, ao, asp⟩ := a
      have hsp : asp = none := by
        cases asp with
        | none => rfl
        | some s => simp [World.cell?, Addr.add] at c0; split at c0 <;> simp at c0
      subst hsp
      have hlt : ab < w.heap.size := by
        rcases Nat.lt_or_ge ab w.heap.size with h | h
        · exact h
        · simp [World.cell?, Addr.add, Array.getElem?_eq_none h] at c0
      refine .vsl ab ao cap (fun j => (w.cell? ⟨ab, ao + j, none⟩).getD undef) hlt (fun j hj => ?_) (fun j hj => ?_) hl (fun c hc => by cases hc)
      · obtain ⟨u, g1, _⟩ := key j (by omega)
        rw [Addr.add_lit] at g1
        rw [g1]
        rfl
      · obtain ⟨u, g1, g2⟩ := key j (by omega)
        rw [Addr.add_lit] at g1
        rw [g1]
        exact g2
/-- Fields from a place on, at that fuel. -/
def Rd.FAt {α : Type} (r : Rd α) (n : Nat) (enc : TypeId × Value → H) (P : Program) (w : World) (spare : Nat → Bool) (held : Bool) (fs : List Field) (o : Nat) : Prop :=
  ∀ (cs : List Value) (xs : List (DataW H × List MemPlace)), xs.length = fs.length → (∀ (i : Nat) (f : Field), fs[i]? = some f → DataW.trod enc P w 0 spare held n f.type ((cs.drop f.offset).take (P.cellsOf f.type)) = xs[i]?) →
    ∃ y, r.wf y ∧ ∀ j, j < r.sz → AR (lawSig w) w ((r.av y).getD j .any) (cs.getD (o + j) undef)
theorem Rd.fat_nil (n o : Nat) : Rd.unit.FAt n enc P w spare held [] o := fun cs xs _ _ => ⟨(), trivial, fun j hj => absurd hj (Nat.not_lt_zero _)⟩
theorem Rd.fat_cons {α β : Type} {r : Rd α} {q : Rd β} {n : Nat} {f : Field} {fs : List Field} {o : Nat} (ho : f.offset = o) (hc : P.cellsOf f.type = r.sz) (hr : r.At n enc P w spare held f.type) (hq : q.FAt n enc P w spare held fs (o + r.sz)) : (r.pair q).FAt n enc P w spare held (f :: fs) o := by
  intro cs xs hl h
  obtain ⟨x, xs, rfl⟩ : ∃ x ys, xs = x :: ys := by
    cases xs with
    | nil => simp at hl
    | cons x ys => exact ⟨x, ys, rfl⟩
  have h0 := h 0 f rfl
  obtain ⟨y, hw, hlen, ha⟩ := hr _ _ h0
  obtain ⟨z, hz, hb⟩ := hq cs xs (by simpa using hl) (fun i g hg => by simpa using h (i + 1) g (by simpa using hg))
  refine ⟨(y, z), ⟨hw, hz⟩, fun j hj => ?_⟩
  show AR (lawSig w) w ((r.av y ++ q.av z).getD j .any) _
  have hy := r.len y hw
  by_cases hjr : j < r.sz
  · have := ha j hjr
    rw [hc, ho] at this
    rw [List.getD_eq_getElem?_getD, List.getElem?_append_left (by omega), ← List.getD_eq_getElem?_getD]
    rw [List.getD_eq_getElem?_getD (l := (cs.drop o).take r.sz), List.getElem?_take, if_pos hjr, List.getElem?_drop, ← List.getD_eq_getElem?_getD] at this
    exact this
  · have hj' : j - r.sz < q.sz := by have : j < r.sz + q.sz := hj; omega
    have := hb (j - r.sz) hj'
    rw [List.getD_eq_getElem?_getD, List.getElem?_append_right (by omega), hy, ← List.getD_eq_getElem?_getD]
    rw [show o + r.sz + (j - r.sz) = o + j from by omega] at this
    exact this
theorem Rd.struct_at {α : Type} {r : Rd α} {t : TypeId} {fs : Array Field} {f : Nat} (ht : P.underlying t = some (.struct fs)) (hsz : P.cellsOf t = r.sz) (hf : ∀ n, f = n + 1 → r.FAt n enc P w spare held fs.toList 0) : r.At f enc P w spare held t := by
  intro cs x h
  obtain ⟨xs, n, hn, _, hcl, hxl, hx⟩ := DataW.trod_struct ht h
  obtain ⟨y, hw, ha⟩ := hf n hn cs xs (by simpa using hxl) (fun i f hi => hx i f (by simpa using hi))
  refine ⟨y, hw, by rw [hcl, hsz], fun j hj => ?_⟩
  have := ha j hj
  rwa [Nat.zero_add] at this
/-- Values: a kind, a text, names, values. -/
inductive Val where
  | mk (k : Int) (t : ByteArray) (ns : List ByteArray) (vs : List Val)
instance : Inhabited Val := ⟨.mk 0 ⟨#[]⟩ [] []⟩
theorem Val.ind {p : Val → Prop} (h : ∀ k t ns vs, (∀ v ∈ vs, p v) → p (.mk k t ns vs)) : ∀ v, p v :=
  Val.rec (motive_1 := p) (motive_2 := fun l => ∀ v ∈ l, p v) (fun k t ns vs ih => h k t ns vs ih) (fun _ h => absurd h List.not_mem_nil) (fun v l hv hl => List.forall_mem_cons.2 ⟨hv, hl⟩)
mutual
def Val.cells : Val → List AV
  | .mk k t ns vs => [.v (.int .i64 k), .v (.string t), .vsl ns.length (strs ns) none, .vsl vs.length (cellsL vs) none]
def cellsL : List Val → List AV
  | [] => []
  | v :: l => v.cells ++ cellsL l
end
mutual
def Val.wf : Val → Prop
  | .mk k t ns vs => (Lit.int .i64 k).wf = true ∧ t.size ≤ maxLen ∧ (ns.length ≤ maxLen ∧ ∀ s ∈ ns, s.size ≤ maxLen) ∧ vs.length ≤ maxLen ∧ wfL vs
def wfL : List Val → Prop
  | [] => True
  | v :: l => v.wf ∧ wfL l
end
theorem wfL_iff : ∀ {l : List Val}, wfL l ↔ ∀ v ∈ l, v.wf
  | [] => ⟨fun _ _ h => absurd h List.not_mem_nil, fun _ => trivial⟩
  | v :: l => by rw [wfL, List.forall_mem_cons, wfL_iff]
theorem cellsL_eq : ∀ (l : List Val), cellsL l = l.flatMap Val.cells
  | [] => rfl
  | v :: l => by rw [cellsL, List.flatMap_cons, cellsL_eq l]
theorem Val.cells_length : ∀ v : Val, v.cells.length = 4
  | .mk _ _ _ _ => by rw [Val.cells]; rfl
theorem cellsL_length : ∀ l : List Val, (cellsL l).length = l.length * 4
  | [] => rfl
  | v :: l => by rw [cellsL, List.length_append, Val.cells_length, cellsL_length l, List.length_cons]; omega
theorem cellsL_append : ∀ l m : List Val, cellsL (l ++ m) = cellsL l ++ cellsL m
  | [], m => rfl
  | v :: l, m => by rw [List.cons_append, cellsL, cellsL, cellsL_append l m, List.append_assoc]
theorem cellsL_at : ∀ (l : List Val) (k : Nat), k < l.length → ((cellsL l).drop (k * 4)).take 4 = (l.getD k default).cells
  | v :: l, 0, _ => by
    rw [cellsL, Nat.zero_mul, List.drop_zero, List.take_append_of_le_length (by rw [Val.cells_length]; exact Nat.le_refl _), List.take_of_length_le (by rw [Val.cells_length]; exact Nat.le_refl _)]
    rfl
  | v :: l, k + 1, h => by
    rw [cellsL, show (k + 1) * 4 = v.cells.length + k * 4 from by rw [Val.cells_length]; omega, List.drop_append, show v.cells.length + k * 4 - v.cells.length = k * 4 from by omega, List.drop_of_length_le (by omega), List.nil_append, cellsL_at l k (by simpa using h)]
    rfl
theorem cellsL_take : ∀ (l : List Val) (k : Nat), (cellsL l).take (k * 4) = cellsL (l.take k)
  | [], k => by simp [cellsL]
  | v :: l, 0 => by simp [cellsL]
  | v :: l, k + 1 => by
    rw [List.take_succ_cons, cellsL, cellsL, show (k + 1) * 4 = v.cells.length + k * 4 from by rw [Val.cells_length]; omega, List.take_append, show v.cells.length + k * 4 - v.cells.length = k * 4 from by omega, List.take_of_length_le (by omega), cellsL_take l k]
theorem Val.nr : ∀ v : Val, ∀ x ∈ v.cells, NR x := Val.ind fun k t ns vs ih x hx => by
  rw [Val.cells] at hx
  simp only [List.mem_cons, List.not_mem_nil, or_false] at hx
  rcases hx with rfl | rfl | rfl | rfl
  · exact NR.v _
  · exact NR.v _
  · refine NR.vsl fun c hc => ?_
    simp only [strs, List.mem_map] at hc
    obtain ⟨n, _, rfl⟩ := hc
    exact NR.v _
  · refine NR.vsl fun c hc => ?_
    rw [cellsL_eq, List.mem_flatMap] at hc
    obtain ⟨v, h1, h2⟩ := hc
    exact ih v h1 c h2
theorem cellsL_nr (l : List Val) : ∀ x ∈ cellsL l, NR x := fun x hx => by
  rw [cellsL_eq, List.mem_flatMap] at hx
  obtain ⟨v, h1, h2⟩ := hx
  exact v.nr x h2
def Rd.val : Rd Val := ⟨4, Val.cells, Val.wf, fun y _ => Val.cells_length y, fun _ _ => True⟩
theorem val_at {t tn : TypeId} {f0 f1 f2 f3 : Field} (ht : P.underlying t = some (.struct #[f0, f1, f2, f3])) (hsz : P.cellsOf t = 4)
    (o0 : f0.offset = 0) (o1 : f1.offset = 1) (o2 : f2.offset = 2) (o3 : f3.offset = 3)
    (c0 : P.cellsOf f0.type = 1) (c1 : P.cellsOf f1.type = 1) (c2 : P.cellsOf f2.type = 1) (c3 : P.cellsOf f3.type = 1)
    (u0 : P.underlying f0.type = some (.int .i64)) (u1 : P.underlying f1.type = some .string) (u2 : P.underlying f2.type = some (.slice tn)) (un : P.underlying tn = some .string) (cn : P.cellsOf tn = 1)
    (u3 : P.underlying f3.type = some (.slice t)) (f : Nat) : Rd.val.At f enc P w spare held t := by
  induction f using Nat.strongRecOn with
  | _ f ih =>
    have hs : (Rd.pair (Rd.int .i64) (Rd.pair Rd.str (Rd.pair Rd.str.slice (Rd.pair Rd.val.slice Rd.unit)))).At f enc P w spare held t := by
      refine Rd.struct_at ht (by rw [hsz]; rfl) (fun n hn => ?_)
      refine Rd.fat_cons o0 c0 ((Rd.int_is u0).at n) ?_
      refine Rd.fat_cons o1 c1 ((Rd.str_is u1).at n) ?_
      refine Rd.fat_cons o2 c2 ((Rd.slice_is u2 cn (by decide) (Rd.str_is un)).at n) ?_
      refine Rd.fat_cons o3 c3 ?_ (Rd.fat_nil n _)
      exact Rd.slice_at u3 (by rw [hsz]; rfl) (by show 0 < 4; decide) (fun m hm => ih m (by omega))
    intro cs x h
    obtain ⟨⟨k, s, ns, vs, _⟩, ⟨w1, w2, w3, w4, _⟩, hl, ha⟩ := hs cs x h
    refine ⟨.mk k s ns vs, ?_, hl, fun j hj => ?_⟩
    · show Val.wf _
      rw [Val.wf, wfL_iff]
      exact ⟨w1, w2, w3, w4⟩
    have := ha j hj
    have e : (Rd.pair (Rd.int .i64) (Rd.pair Rd.str (Rd.pair Rd.str.slice (Rd.pair Rd.val.slice Rd.unit)))).av (k, s, ns, vs, ()) = Val.cells (.mk k s ns vs) := by
      show [AV.v (.int .i64 k)] ++ ([AV.v (.string s)] ++ ([AV.vsl ns.length (ns.flatMap Rd.str.av) none] ++ ([AV.vsl vs.length (vs.flatMap Val.cells) none] ++ []))) = _
      rw [flat_strs, Val.cells, cellsL_eq]
      rfl
    rw [e] at this
    exact this
theorem Rd.val_is {t : TypeId} (h : ∀ f, Rd.val.At f enc P w spare held t) : Rd.val.Is enc P w spare held t := fun f cs x hx => by
  obtain ⟨y, h1, h2, h3⟩ := h f cs x hx
  exact ⟨y, h1, h2, h3, trivial⟩
theorem flat_vals (l : List Val) : l.flatMap Rd.val.av = cellsL l := (cellsL_eq l).symm
end Go.Abs
namespace Go.Abs.S
open Go.Proofs
theorem mixed : Tryd.prog.follows .mixedOrders = true := by kernel_rfl
set_option maxRecDepth 100000
def lay_escutcheon_hour_months : List Int := [31, 28, 31, 30, 31, 30, 31, 31, 30, 31, 30, 31]
def cells_escutcheon_hour_months : List Value := lay_escutcheon_hour_months.map (Value.int .i64)
def av_escutcheon_hour_months : AV := .vptr (ints .i64 lay_escutcheon_hour_months) 0
def lay_unicode_utf8_first : List Int := List.map (fun (n : Nat) => (n : Int)) Go.Pinned.utf8FirstZ
def cells_unicode_utf8_first : List Value := lay_unicode_utf8_first.map (Value.int .u8)
def av_unicode_utf8_first : AV := .vptr (ints .u8 lay_unicode_utf8_first) 0
def lay_unicode_utf8_acceptRanges : List Int := [128, 191, 160, 191, 128, 159, 144, 191, 128, 143, 0, 0, 0, 0, 0, 0, 0, 0, 0, 0, 0, 0, 0, 0, 0, 0, 0, 0, 0, 0, 0, 0]
def cells_unicode_utf8_acceptRanges : List Value := lay_unicode_utf8_acceptRanges.map (Value.int .u8)
def av_unicode_utf8_acceptRanges : AV := .vptr (ints .u8 lay_unicode_utf8_acceptRanges) 0
def lay_internal_strconv_uint64pow10 : List Int := [1, 10, 100, 1000, 10000, 100000, 1000000, 10000000, 100000000, 1000000000, 10000000000, 100000000000, 1000000000000, 10000000000000, 100000000000000, 1000000000000000, 10000000000000000, 100000000000000000, 1000000000000000000, 10000000000000000000]
def cells_internal_strconv_uint64pow10 : List Value := lay_internal_strconv_uint64pow10.map (Value.int .u64)
def av_internal_strconv_uint64pow10 : AV := .vptr (ints .u64 lay_internal_strconv_uint64pow10) 0
def lay_math_bits_deBruijn32tab : List Int := [0, 1, 28, 2, 29, 14, 24, 3, 30, 22, 20, 15, 25, 17, 4, 8, 31, 27, 13, 23, 21, 19, 16, 7, 26, 12, 18, 6, 11, 5, 10, 9]
def cells_math_bits_deBruijn32tab : List Value := lay_math_bits_deBruijn32tab.map (Value.int .u8)
def av_math_bits_deBruijn32tab : AV := .vptr (ints .u8 lay_math_bits_deBruijn32tab) 0
def lay_math_bits_deBruijn64tab : List Int := [0, 1, 56, 2, 57, 49, 28, 3, 61, 58, 42, 50, 38, 29, 17, 4, 62, 47, 59, 36, 45, 43, 51, 22, 53, 39, 33, 30, 24, 18, 12, 5, 63, 55, 48, 27, 60, 41, 37, 16, 46, 35, 44, 21, 52, 32, 23, 11, 54, 26, 40, 15, 34, 20, 31, 10, 25, 14, 19, 9, 13, 8, 7, 6]
def cells_math_bits_deBruijn64tab : List Value := lay_math_bits_deBruijn64tab.map (Value.int .u8)
def av_math_bits_deBruijn64tab : AV := .vptr (ints .u8 lay_math_bits_deBruijn64tab) 0
/-- What is known of package-level variables. -/
def glob : Glob := fun g => if g = 0 then av_escutcheon_hour_months else if g = 1 then av_unicode_utf8_first else if g = 2 then av_unicode_utf8_acceptRanges else if g = 3 then av_internal_strconv_uint64pow10 else if g = 7 then av_math_bits_deBruijn32tab else if g = 8 then av_math_bits_deBruijn64tab else .any
theorem glob_escutcheon_hour_months : (match av_escutcheon_hour_months with | .vptr xs _ => xs | _ => []) = cells_escutcheon_hour_months.map .v := by
  first | rfl | simp [av_escutcheon_hour_months, cells_escutcheon_hour_months, ints]
@[go_sem] theorem globat0 : glob 0 = .vptr (ints .i64 lay_escutcheon_hour_months) 0 := rfl
theorem nr_escutcheon_hour_months : NR av_escutcheon_hour_months := NR.vptr (by
  intro c hc
  have h : c ∈ cells_escutcheon_hour_months.map AV.v := by rw [← glob_escutcheon_hour_months]; exact hc
  obtain ⟨x, _, rfl⟩ := List.mem_map.1 h
  exact NR.v x)
theorem glob_unicode_utf8_first : (match av_unicode_utf8_first with | .vptr xs _ => xs | _ => []) = cells_unicode_utf8_first.map .v := by
  first | rfl | simp [av_unicode_utf8_first, cells_unicode_utf8_first, ints]
@[go_sem] theorem globat1 : glob 1 = .vptr (ints .u8 lay_unicode_utf8_first) 0 := rfl
theorem nr_unicode_utf8_first : NR av_unicode_utf8_first := NR.vptr (by
  intro c hc
  have h : c ∈ cells_unicode_utf8_first.map AV.v := by rw [← glob_unicode_utf8_first]; exact hc
  obtain ⟨x, _, rfl⟩ := List.mem_map.1 h
  exact NR.v x)
theorem glob_unicode_utf8_acceptRanges : (match av_unicode_utf8_acceptRanges with | .vptr xs _ => xs | _ => []) = cells_unicode_utf8_acceptRanges.map .v := by
  first | rfl | simp [av_unicode_utf8_acceptRanges, cells_unicode_utf8_acceptRanges, ints]
@[go_sem] theorem globat2 : glob 2 = .vptr (ints .u8 lay_unicode_utf8_acceptRanges) 0 := rfl
theorem nr_unicode_utf8_acceptRanges : NR av_unicode_utf8_acceptRanges := NR.vptr (by
  intro c hc
  have h : c ∈ cells_unicode_utf8_acceptRanges.map AV.v := by rw [← glob_unicode_utf8_acceptRanges]; exact hc
  obtain ⟨x, _, rfl⟩ := List.mem_map.1 h
  exact NR.v x)
theorem glob_internal_strconv_uint64pow10 : (match av_internal_strconv_uint64pow10 with | .vptr xs _ => xs | _ => []) = cells_internal_strconv_uint64pow10.map .v := by
  first | rfl | simp [av_internal_strconv_uint64pow10, cells_internal_strconv_uint64pow10, ints]
@[go_sem] theorem globat3 : glob 3 = .vptr (ints .u64 lay_internal_strconv_uint64pow10) 0 := rfl
theorem nr_internal_strconv_uint64pow10 : NR av_internal_strconv_uint64pow10 := NR.vptr (by
  intro c hc
  have h : c ∈ cells_internal_strconv_uint64pow10.map AV.v := by rw [← glob_internal_strconv_uint64pow10]; exact hc
  obtain ⟨x, _, rfl⟩ := List.mem_map.1 h
  exact NR.v x)
theorem glob_math_bits_deBruijn32tab : (match av_math_bits_deBruijn32tab with | .vptr xs _ => xs | _ => []) = cells_math_bits_deBruijn32tab.map .v := by
  first | rfl | simp [av_math_bits_deBruijn32tab, cells_math_bits_deBruijn32tab, ints]
@[go_sem] theorem globat7 : glob 7 = .vptr (ints .u8 lay_math_bits_deBruijn32tab) 0 := rfl
theorem nr_math_bits_deBruijn32tab : NR av_math_bits_deBruijn32tab := NR.vptr (by
  intro c hc
  have h : c ∈ cells_math_bits_deBruijn32tab.map AV.v := by rw [← glob_math_bits_deBruijn32tab]; exact hc
  obtain ⟨x, _, rfl⟩ := List.mem_map.1 h
  exact NR.v x)
theorem glob_math_bits_deBruijn64tab : (match av_math_bits_deBruijn64tab with | .vptr xs _ => xs | _ => []) = cells_math_bits_deBruijn64tab.map .v := by
  first | rfl | simp [av_math_bits_deBruijn64tab, cells_math_bits_deBruijn64tab, ints]
@[go_sem] theorem globat8 : glob 8 = .vptr (ints .u8 lay_math_bits_deBruijn64tab) 0 := rfl
theorem nr_math_bits_deBruijn64tab : NR av_math_bits_deBruijn64tab := NR.vptr (by
  intro c hc
  have h : c ∈ cells_math_bits_deBruijn64tab.map AV.v := by rw [← glob_math_bits_deBruijn64tab]; exact hc
  obtain ⟨x, _, rfl⟩ := List.mem_map.1 h
  exact NR.v x)
theorem glob_nr : GN glob := by
  intro g
  unfold glob
  by_cases e0 : g = 0
  · rw [if_pos e0]
    exact nr_escutcheon_hour_months
  rw [if_neg e0]
  by_cases e1 : g = 1
  · rw [if_pos e1]
    exact nr_unicode_utf8_first
  rw [if_neg e1]
  by_cases e2 : g = 2
  · rw [if_pos e2]
    exact nr_unicode_utf8_acceptRanges
  rw [if_neg e2]
  by_cases e3 : g = 3
  · rw [if_pos e3]
    exact nr_internal_strconv_uint64pow10
  rw [if_neg e3]
  by_cases e7 : g = 7
  · rw [if_pos e7]
    exact nr_math_bits_deBruijn32tab
  rw [if_neg e7]
  by_cases e8 : g = 8
  · rw [if_pos e8]
    exact nr_math_bits_deBruijn64tab
  rw [if_neg e8]
  exact NR.any
theorem ctx : Ctx Tryd.prog glob := ⟨glob_nr, mixed⟩
/-- A call, out of its body as it is looked at. -/
def LC (n nt : Nat) (lc : LCode) (rs : List ResultVar) : Prop := ∀ {args : List AV} (_ : args.length ≤ nt) {H0 : AHeap} (lo : Nat) (_ : H0.length ≤ lo) {r0 : AV} {H0' : AHeap} (_ : lavc Tryd.prog glob lc (args ++ List.replicate (nt - args.length) (.v undef)) H0 fun e t H => (e = .normal ∨ e = .ret) ∧ aret Tryd.prog t H rs fun r => Fin lo H r r0 H0'), ACall Tryd.prog glob (H0.length == 0) n args H0 r0 H0'
theorem LC.of {imp : FuncId → Bool} {n : FuncId} {fn : Func} {lc : LCode} {rs : List ResultVar} {nt : Nat} (hf : Tryd.prog.funcs[n]? = some fn) (hname : (fn.name == "runtime.NumGoroutine") = false) (hl : fn.body.map (strip Tryd.prog imp) = some lc) (hr : fn.results.toList = rs) (hnt : fn.ntmps = nt) : LC n nt lc rs := by
  intro args hargs H0 lo hlo r0 H0' h
  exact LCall' ctx hf hname hl hr hnt hargs lo hlo h
@[go_sem] theorem tsz2 : tsz Tryd.prog 2 = some 1 := by kernel_rfl
@[go_sem] theorem tby2 : tby Tryd.prog 2 = some 8 := by kernel_rfl
@[go_sem] theorem tzero2 : tzero Tryd.prog 2 = some (.int .i64 0) := by kernel_rfl
@[go_sem] theorem tsz3 : tsz Tryd.prog 3 = some 1 := by kernel_rfl
@[go_sem] theorem tby3 : tby Tryd.prog 3 = some 8 := by kernel_rfl
@[go_sem] theorem tzero3 : tzero Tryd.prog 3 = some (.int .i64 0) := by kernel_rfl
@[go_sem] theorem tsz4 : tsz Tryd.prog 4 = some 1 := by kernel_rfl
@[go_sem] theorem tby4 : tby Tryd.prog 4 = some 1 := by kernel_rfl
@[go_sem] theorem tzero4 : tzero Tryd.prog 4 = some (.bool false) := by kernel_rfl
@[go_sem] theorem tsz5 : tsz Tryd.prog 5 = some 1 := by kernel_rfl
@[go_sem] theorem tby5 : tby Tryd.prog 5 = some 1 := by kernel_rfl
@[go_sem] theorem tzero5 : tzero Tryd.prog 5 = some (.int .u8 0) := by kernel_rfl
@[go_sem] theorem tsz6 : tsz Tryd.prog 6 = some 1 := by kernel_rfl
@[go_sem] theorem tby6 : tby Tryd.prog 6 = some 1 := by kernel_rfl
@[go_sem] theorem tzero6 : tzero Tryd.prog 6 = some (.int .u8 0) := by kernel_rfl
@[go_sem] theorem tsz7 : tsz Tryd.prog 7 = some 4 := by kernel_rfl
@[go_sem] theorem tby7 : tby Tryd.prog 7 = some 24 := by kernel_rfl
@[go_sem] theorem tzero7 : tzero Tryd.prog 7 = some (.agg #[(.int .i64 0), (.int .i64 0), (.bool false), (.int .u8 0)]) := by kernel_rfl
@[go_sem] theorem tsz8 : tsz Tryd.prog 8 = some 4 := by kernel_rfl
@[go_sem] theorem tby8 : tby Tryd.prog 8 = some 24 := by kernel_rfl
@[go_sem] theorem tzero8 : tzero Tryd.prog 8 = some (.agg #[(.int .i64 0), (.int .i64 0), (.bool false), (.int .u8 0)]) := by kernel_rfl
@[go_sem] theorem tsz9 : tsz Tryd.prog 9 = some 1 := by kernel_rfl
@[go_sem] theorem tby9 : tby Tryd.prog 9 = some 16 := by kernel_rfl
@[go_sem] theorem tzero9 : tzero Tryd.prog 9 = some (.string ⟨#[]⟩) := by kernel_rfl
@[go_sem] theorem row9 : Row Tryd.prog 9 := .inr (by kernel_rfl)
@[go_sem] theorem tsz10 : tsz Tryd.prog 10 = some 1 := by kernel_rfl
@[go_sem] theorem tby10 : tby Tryd.prog 10 = some 16 := by kernel_rfl
@[go_sem] theorem tzero10 : tzero Tryd.prog 10 = some (.string ⟨#[]⟩) := by kernel_rfl
@[go_sem] theorem row10 : Row Tryd.prog 10 := .inr (by kernel_rfl)
@[go_sem] theorem tsz11 : tsz Tryd.prog 11 = some 1 := by kernel_rfl
@[go_sem] theorem tby11 : tby Tryd.prog 11 = some 16 := by kernel_rfl
@[go_sem] theorem tzero11 : tzero Tryd.prog 11 = some (.string ⟨#[]⟩) := by kernel_rfl
@[go_sem] theorem row11 : Row Tryd.prog 11 := .inr (by kernel_rfl)
@[go_sem] theorem tsz12 : tsz Tryd.prog 12 = some 1 := by kernel_rfl
@[go_sem] theorem tby12 : tby Tryd.prog 12 = some 8 := by kernel_rfl
@[go_sem] theorem tzero12 : tzero Tryd.prog 12 = some (.int .u64 0) := by kernel_rfl
@[go_sem] theorem tsz13 : tsz Tryd.prog 13 = some 2 := by kernel_rfl
@[go_sem] theorem tby13 : tby Tryd.prog 13 = some 24 := by kernel_rfl
@[go_sem] theorem tzero13 : tzero Tryd.prog 13 = some (.agg #[(.string ⟨#[]⟩), (.int .u64 0)]) := by kernel_rfl
@[go_sem] theorem tsz14 : tsz Tryd.prog 14 = some 2 := by kernel_rfl
@[go_sem] theorem tby14 : tby Tryd.prog 14 = some 24 := by kernel_rfl
@[go_sem] theorem tzero14 : tzero Tryd.prog 14 = some (.agg #[(.string ⟨#[]⟩), (.int .u64 0)]) := by kernel_rfl
@[go_sem] theorem tsz15 : tsz Tryd.prog 15 = some 1 := by kernel_rfl
@[go_sem] theorem tby15 : tby Tryd.prog 15 = some 8 := by kernel_rfl
@[go_sem] theorem tzero15 : tzero Tryd.prog 15 = some (.pointer none) := by kernel_rfl
@[go_sem] theorem tsz16 : tsz Tryd.prog 16 = some 1 := by kernel_rfl
@[go_sem] theorem tby16 : tby Tryd.prog 16 = some 8 := by kernel_rfl
@[go_sem] theorem tzero16 : tzero Tryd.prog 16 = some (.pointer none) := by kernel_rfl
@[go_sem] theorem tsz17 : tsz Tryd.prog 17 = some 1 := by kernel_rfl
@[go_sem] theorem tby17 : tby Tryd.prog 17 = some 8 := by kernel_rfl
@[go_sem] theorem tzero17 : tzero Tryd.prog 17 = some (.pointer none) := by kernel_rfl
@[go_sem] theorem tsz18 : tsz Tryd.prog 18 = some 1 := by kernel_rfl
@[go_sem] theorem tby18 : tby Tryd.prog 18 = some 8 := by kernel_rfl
@[go_sem] theorem tzero18 : tzero Tryd.prog 18 = some (.agg #[(.pointer none)]) := by kernel_rfl
@[go_sem] theorem tsz19 : tsz Tryd.prog 19 = some 1 := by kernel_rfl
@[go_sem] theorem tby19 : tby Tryd.prog 19 = some 8 := by kernel_rfl
@[go_sem] theorem tzero19 : tzero Tryd.prog 19 = some (.agg #[(.pointer none)]) := by kernel_rfl
@[go_sem] theorem tsz21 : tsz Tryd.prog 21 = some 1 := by kernel_rfl
@[go_sem] theorem tby21 : tby Tryd.prog 21 = some 4 := by kernel_rfl
@[go_sem] theorem tzero21 : tzero Tryd.prog 21 = some (.int .i32 0) := by kernel_rfl
@[go_sem] theorem tsz22 : tsz Tryd.prog 22 = some 1 := by kernel_rfl
@[go_sem] theorem tby22 : tby Tryd.prog 22 = some 8 := by kernel_rfl
@[go_sem] theorem tzero22 : tzero Tryd.prog 22 = some (.int .i64 0) := by kernel_rfl
@[go_sem] theorem tsz23 : tsz Tryd.prog 23 = some 1 := by kernel_rfl
@[go_sem] theorem tby23 : tby Tryd.prog 23 = some 24 := by kernel_rfl
@[go_sem] theorem tzero23 : tzero Tryd.prog 23 = some (.slice none 0 0) := by kernel_rfl
@[go_sem] theorem row23 : Row Tryd.prog 23 := .inl ⟨9, by kernel_rfl⟩
@[go_sem] theorem tsz24 : tsz Tryd.prog 24 = some 1 := by kernel_rfl
@[go_sem] theorem tby24 : tby Tryd.prog 24 = some 24 := by kernel_rfl
@[go_sem] theorem tzero24 : tzero Tryd.prog 24 = some (.slice none 0 0) := by kernel_rfl
@[go_sem] theorem row24 : Row Tryd.prog 24 := .inl ⟨26, by kernel_rfl⟩
@[go_sem] theorem tsz25 : tsz Tryd.prog 25 = some 4 := by kernel_rfl
@[go_sem] theorem tby25 : tby Tryd.prog 25 = some 72 := by kernel_rfl
@[go_sem] theorem tzero25 : tzero Tryd.prog 25 = some (.agg #[(.int .i64 0), (.string ⟨#[]⟩), (.slice none 0 0), (.slice none 0 0)]) := by kernel_rfl
@[go_sem] theorem tsz26 : tsz Tryd.prog 26 = some 4 := by kernel_rfl
@[go_sem] theorem tby26 : tby Tryd.prog 26 = some 72 := by kernel_rfl
@[go_sem] theorem tzero26 : tzero Tryd.prog 26 = some (.agg #[(.int .i64 0), (.string ⟨#[]⟩), (.slice none 0 0), (.slice none 0 0)]) := by kernel_rfl
@[go_sem] theorem tsz27 : tsz Tryd.prog 27 = some 1 := by kernel_rfl
@[go_sem] theorem tby27 : tby Tryd.prog 27 = some 24 := by kernel_rfl
@[go_sem] theorem tzero27 : tzero Tryd.prog 27 = some (.slice none 0 0) := by kernel_rfl
@[go_sem] theorem row27 : Row Tryd.prog 27 := .inl ⟨40, by kernel_rfl⟩
@[go_sem] theorem tsz28 : tsz Tryd.prog 28 = some 2 := by kernel_rfl
@[go_sem] theorem tby28 : tby Tryd.prog 28 = some 48 := by kernel_rfl
@[go_sem] theorem tzero28 : tzero Tryd.prog 28 = some (.agg #[(.slice none 0 0), (.slice none 0 0)]) := by kernel_rfl
@[go_sem] theorem tsz31 : tsz Tryd.prog 31 = some 1 := by kernel_rfl
@[go_sem] theorem tby31 : tby Tryd.prog 31 = some 8 := by kernel_rfl
@[go_sem] theorem tzero31 : tzero Tryd.prog 31 = some (.int .i64 0) := by kernel_rfl
@[go_sem] theorem tsz38 : tsz Tryd.prog 38 = some 1 := by kernel_rfl
@[go_sem] theorem tby38 : tby Tryd.prog 38 = some 8 := by kernel_rfl
@[go_sem] theorem tzero38 : tzero Tryd.prog 38 = some (.int .i64 0) := by kernel_rfl
@[go_sem] theorem tsz39 : tsz Tryd.prog 39 = some 3 := by kernel_rfl
@[go_sem] theorem tby39 : tby Tryd.prog 39 = some 40 := by kernel_rfl
@[go_sem] theorem tzero39 : tzero Tryd.prog 39 = some (.agg #[(.int .i64 0), (.string ⟨#[]⟩), (.string ⟨#[]⟩)]) := by kernel_rfl
@[go_sem] theorem tsz40 : tsz Tryd.prog 40 = some 3 := by kernel_rfl
@[go_sem] theorem tby40 : tby Tryd.prog 40 = some 40 := by kernel_rfl
@[go_sem] theorem tzero40 : tzero Tryd.prog 40 = some (.agg #[(.int .i64 0), (.string ⟨#[]⟩), (.string ⟨#[]⟩)]) := by kernel_rfl
@[go_sem] theorem tsz42 : tsz Tryd.prog 42 = some 5 := by kernel_rfl
@[go_sem] theorem tby42 : tby Tryd.prog 42 = some 72 := by kernel_rfl
@[go_sem] theorem tzero42 : tzero Tryd.prog 42 = some (.agg #[(.string ⟨#[]⟩), (.string ⟨#[]⟩), (.int .i64 0), (.int .i64 0), (.slice none 0 0)]) := by kernel_rfl
@[go_sem] theorem tsz43 : tsz Tryd.prog 43 = some 5 := by kernel_rfl
@[go_sem] theorem tby43 : tby Tryd.prog 43 = some 72 := by kernel_rfl
@[go_sem] theorem tzero43 : tzero Tryd.prog 43 = some (.agg #[(.string ⟨#[]⟩), (.string ⟨#[]⟩), (.int .i64 0), (.int .i64 0), (.slice none 0 0)]) := by kernel_rfl
@[go_sem] theorem tsz46 : tsz Tryd.prog 46 = some 2 := by kernel_rfl
@[go_sem] theorem tby46 : tby Tryd.prog 46 = some 16 := by kernel_rfl
@[go_sem] theorem tzero46 : tzero Tryd.prog 46 = some (zArr .i64 2) := by kernel_rfl
@[go_sem] theorem tsz51 : tsz Tryd.prog 51 = some 5 := by kernel_rfl
@[go_sem] theorem tby51 : tby Tryd.prog 51 = some 80 := by kernel_rfl
@[go_sem] theorem tzero51 : tzero Tryd.prog 51 = some (.agg #[(.int .i64 0), (.string ⟨#[]⟩), (.slice none 0 0), (.slice none 0 0), (.int .i64 0)]) := by kernel_rfl
@[go_sem] theorem tsz52 : tsz Tryd.prog 52 = some 5 := by kernel_rfl
@[go_sem] theorem tby52 : tby Tryd.prog 52 = some 80 := by kernel_rfl
@[go_sem] theorem tzero52 : tzero Tryd.prog 52 = some (.agg #[(.int .i64 0), (.string ⟨#[]⟩), (.slice none 0 0), (.slice none 0 0), (.int .i64 0)]) := by kernel_rfl
@[go_sem] theorem tsz55 : tsz Tryd.prog 55 = some 3 := by kernel_rfl
@[go_sem] theorem tby55 : tby Tryd.prog 55 = some 24 := by kernel_rfl
@[go_sem] theorem tzero55 : tzero Tryd.prog 55 = some (zArr .i64 3) := by kernel_rfl
@[go_sem] theorem tsz56 : tsz Tryd.prog 56 = some 3 := by kernel_rfl
@[go_sem] theorem tby56 : tby Tryd.prog 56 = some 24 := by kernel_rfl
@[go_sem] theorem tzero56 : tzero Tryd.prog 56 = some (zArr .i64 3) := by kernel_rfl
@[go_sem] theorem tsz57 : tsz Tryd.prog 57 = some 6 := by kernel_rfl
@[go_sem] theorem tby57 : tby Tryd.prog 57 = some 48 := by kernel_rfl
@[go_sem] theorem tzero57 : tzero Tryd.prog 57 = some (zArr .i64 6) := by kernel_rfl
@[go_sem] theorem tsz58 : tsz Tryd.prog 58 = some 6 := by kernel_rfl
@[go_sem] theorem tby58 : tby Tryd.prog 58 = some 48 := by kernel_rfl
@[go_sem] theorem tzero58 : tzero Tryd.prog 58 = some (zArr .i64 6) := by kernel_rfl
@[go_sem] theorem tsz60 : tsz Tryd.prog 60 = some 1 := by kernel_rfl
@[go_sem] theorem tby60 : tby Tryd.prog 60 = some 8 := by kernel_rfl
@[go_sem] theorem tzero60 : tzero Tryd.prog 60 = some (.pointer none) := by kernel_rfl
@[go_sem] theorem tsz61 : tsz Tryd.prog 61 = some 1 := by kernel_rfl
@[go_sem] theorem tby61 : tby Tryd.prog 61 = some 24 := by kernel_rfl
@[go_sem] theorem tzero61 : tzero Tryd.prog 61 = some (.slice none 0 0) := by kernel_rfl
@[go_sem] theorem row61 : Row Tryd.prog 61 := .inl ⟨5, by kernel_rfl⟩
@[go_sem] theorem tsz62 : tsz Tryd.prog 62 = some 2 := by kernel_rfl
@[go_sem] theorem tby62 : tby Tryd.prog 62 = some 32 := by kernel_rfl
@[go_sem] theorem tzero62 : tzero Tryd.prog 62 = some (.agg #[(.pointer none), (.slice none 0 0)]) := by kernel_rfl
@[go_sem] theorem tsz63 : tsz Tryd.prog 63 = some 2 := by kernel_rfl
@[go_sem] theorem tby63 : tby Tryd.prog 63 = some 32 := by kernel_rfl
@[go_sem] theorem tzero63 : tzero Tryd.prog 63 = some (.agg #[(.pointer none), (.slice none 0 0)]) := by kernel_rfl
@[go_sem] theorem tsz69 : tsz Tryd.prog 69 = some 5 := by kernel_rfl
@[go_sem] theorem tby69 : tby Tryd.prog 69 = some 40 := by kernel_rfl
@[go_sem] theorem tzero69 : tzero Tryd.prog 69 = some (zArr .i64 5) := by kernel_rfl
@[go_sem] theorem tsz86 : tsz Tryd.prog 86 = some 1 := by kernel_rfl
@[go_sem] theorem tby86 : tby Tryd.prog 86 = some 8 := by kernel_rfl
@[go_sem] theorem tzero86 : tzero Tryd.prog 86 = some (.pointer none) := by kernel_rfl
@[go_sem] theorem tsz88 : tsz Tryd.prog 88 = some 1 := by kernel_rfl
@[go_sem] theorem tby88 : tby Tryd.prog 88 = some 24 := by kernel_rfl
@[go_sem] theorem tzero88 : tzero Tryd.prog 88 = some (.slice none 0 0) := by kernel_rfl
@[go_sem] theorem row88 : Row Tryd.prog 88 := .inl ⟨23, by kernel_rfl⟩
@[go_sem] theorem tsz94 : tsz Tryd.prog 94 = some 12 := by kernel_rfl
@[go_sem] theorem tby94 : tby Tryd.prog 94 = some 96 := by kernel_rfl
@[go_sem] theorem tzero94 : tzero Tryd.prog 94 = some (zArr .i64 12) := by kernel_rfl
@[go_sem] theorem tsz97 : tsz Tryd.prog 97 = some 1 := by kernel_rfl
@[go_sem] theorem tby97 : tby Tryd.prog 97 = some 8 := by kernel_rfl
@[go_sem] theorem tzero97 : tzero Tryd.prog 97 = some (.int .u64 0) := by kernel_rfl
@[go_sem] theorem tsz108 : tsz Tryd.prog 108 = some 1 := by kernel_rfl
@[go_sem] theorem tby108 : tby Tryd.prog 108 = some 4 := by kernel_rfl
@[go_sem] theorem tzero108 : tzero Tryd.prog 108 = some (.int .u32 0) := by kernel_rfl
@[go_sem] theorem tsz111 : tsz Tryd.prog 111 = some 1 := by kernel_rfl
@[go_sem] theorem tby111 : tby Tryd.prog 111 = some 8 := by kernel_rfl
@[go_sem] theorem tzero111 : tzero Tryd.prog 111 = some (.int .u64 0) := by kernel_rfl
@[go_sem] theorem tsz115 : tsz Tryd.prog 115 = some 256 := by kernel_rfl
@[go_sem] theorem tby115 : tby Tryd.prog 115 = some 256 := by kernel_rfl
@[go_sem] theorem tzero115 : tzero Tryd.prog 115 = some (zArr .u8 256) := by kernel_rfl
@[go_sem] theorem tsz116 : tsz Tryd.prog 116 = some 2 := by kernel_rfl
@[go_sem] theorem tby116 : tby Tryd.prog 116 = some 2 := by kernel_rfl
@[go_sem] theorem tzero116 : tzero Tryd.prog 116 = some (zArr .u8 2) := by kernel_rfl
@[go_sem] theorem tsz117 : tsz Tryd.prog 117 = some 2 := by kernel_rfl
@[go_sem] theorem tby117 : tby Tryd.prog 117 = some 2 := by kernel_rfl
@[go_sem] theorem tzero117 : tzero Tryd.prog 117 = some (zArr .u8 2) := by kernel_rfl
@[go_sem] theorem tsz118 : tsz Tryd.prog 118 = some 32 := by kernel_rfl
@[go_sem] theorem tby118 : tby Tryd.prog 118 = some 32 := by kernel_rfl
@[go_sem] theorem tzero118 : tzero Tryd.prog 118 = some (zArr .u8 32) := by kernel_rfl
@[go_sem] theorem tsz120 : tsz Tryd.prog 120 = some 24 := by kernel_rfl
@[go_sem] theorem tby120 : tby Tryd.prog 120 = some 24 := by kernel_rfl
@[go_sem] theorem tzero120 : tzero Tryd.prog 120 = some (zArr .u8 24) := by kernel_rfl
@[go_sem] theorem tsz128 : tsz Tryd.prog 128 = some 20 := by kernel_rfl
@[go_sem] theorem tby128 : tby Tryd.prog 128 = some 160 := by kernel_rfl
@[go_sem] theorem tzero128 : tzero Tryd.prog 128 = some (zArr .u64 20) := by kernel_rfl
@[go_sem] theorem tsz129 : tsz Tryd.prog 129 = some 65 := by kernel_rfl
@[go_sem] theorem tby129 : tby Tryd.prog 129 = some 65 := by kernel_rfl
@[go_sem] theorem tzero129 : tzero Tryd.prog 129 = some (zArr .u8 65) := by kernel_rfl
@[go_sem] theorem tsz131 : tsz Tryd.prog 131 = some 1 := by kernel_rfl
@[go_sem] theorem tby131 : tby Tryd.prog 131 = some 8 := by kernel_rfl
@[go_sem] theorem tzero131 : tzero Tryd.prog 131 = some (.int .i64 0) := by kernel_rfl
@[go_sem] theorem tsz134 : tsz Tryd.prog 134 = some 1 := by kernel_rfl
@[go_sem] theorem tby134 : tby Tryd.prog 134 = some 8 := by kernel_rfl
@[go_sem] theorem tzero134 : tzero Tryd.prog 134 = some (.pointer none) := by kernel_rfl
@[go_sem] theorem tsz141 : tsz Tryd.prog 141 = some 3 := by kernel_rfl
@[go_sem] theorem tby141 : tby Tryd.prog 141 = some 48 := by kernel_rfl
@[go_sem] theorem tzero141 : tzero Tryd.prog 141 = some (.agg #[(.string ⟨#[]⟩), (.string ⟨#[]⟩), .nilIface]) := by kernel_rfl
@[go_sem] theorem tsz142 : tsz Tryd.prog 142 = some 3 := by kernel_rfl
@[go_sem] theorem tby142 : tby Tryd.prog 142 = some 48 := by kernel_rfl
@[go_sem] theorem tzero142 : tzero Tryd.prog 142 = some (.agg #[(.string ⟨#[]⟩), (.string ⟨#[]⟩), .nilIface]) := by kernel_rfl
@[go_sem] theorem tsz144 : tsz Tryd.prog 144 = some 32 := by kernel_rfl
@[go_sem] theorem tby144 : tby Tryd.prog 144 = some 32 := by kernel_rfl
@[go_sem] theorem tzero144 : tzero Tryd.prog 144 = some (zArr .u8 32) := by kernel_rfl
@[go_sem] theorem tsz145 : tsz Tryd.prog 145 = some 64 := by kernel_rfl
@[go_sem] theorem tby145 : tby Tryd.prog 145 = some 64 := by kernel_rfl
@[go_sem] theorem tzero145 : tzero Tryd.prog 145 = some (zArr .u8 64) := by kernel_rfl
@[go_sem] theorem tsz147 : tsz Tryd.prog 147 = some 1 := by kernel_rfl
@[go_sem] theorem tby147 : tby Tryd.prog 147 = some 8 := by kernel_rfl
@[go_sem] theorem tzero147 : tzero Tryd.prog 147 = some (.pointer none) := by kernel_rfl
@[go_sem] theorem tsz148 : tsz Tryd.prog 148 = some 1 := by kernel_rfl
@[go_sem] theorem tby148 : tby Tryd.prog 148 = some 16 := by kernel_rfl
@[go_sem] theorem tzero148 : tzero Tryd.prog 148 = some (.agg #[(.string ⟨#[]⟩)]) := by kernel_rfl
@[go_sem] theorem tsz149 : tsz Tryd.prog 149 = some 1 := by kernel_rfl
@[go_sem] theorem tby149 : tby Tryd.prog 149 = some 16 := by kernel_rfl
@[go_sem] theorem tzero149 : tzero Tryd.prog 149 = some (.agg #[(.string ⟨#[]⟩)]) := by kernel_rfl
@[go_sem] theorem tsz150 : tsz Tryd.prog 150 = some 4 := by kernel_rfl
@[go_sem] theorem tby150 : tby Tryd.prog 150 = some 40 := by kernel_rfl
@[go_sem] theorem tzero150 : tzero Tryd.prog 150 = some (.agg #[(.pointer none), (.pointer none), (.pointer none), (.string ⟨#[]⟩)]) := by kernel_rfl
@[go_sem] theorem tsz151 : tsz Tryd.prog 151 = some 4 := by kernel_rfl
@[go_sem] theorem tby151 : tby Tryd.prog 151 = some 40 := by kernel_rfl
@[go_sem] theorem tzero151 : tzero Tryd.prog 151 = some (.agg #[(.pointer none), (.pointer none), (.pointer none), (.string ⟨#[]⟩)]) := by kernel_rfl
@[go_sem] theorem tsz152 : tsz Tryd.prog 152 = some 0 := by kernel_rfl
@[go_sem] theorem tby152 : tby Tryd.prog 152 = some 0 := by kernel_rfl
@[go_sem] theorem tzero152 : tzero Tryd.prog 152 = some (.agg #[]) := by kernel_rfl
@[go_sem] theorem tsz153 : tsz Tryd.prog 153 = some 0 := by kernel_rfl
@[go_sem] theorem tby153 : tby Tryd.prog 153 = some 0 := by kernel_rfl
@[go_sem] theorem tzero153 : tzero Tryd.prog 153 = some (.agg #[]) := by kernel_rfl
@[go_sem] theorem tsz154 : tsz Tryd.prog 154 = some 0 := by kernel_rfl
@[go_sem] theorem tby154 : tby Tryd.prog 154 = some 0 := by kernel_rfl
@[go_sem] theorem tzero154 : tzero Tryd.prog 154 = some (.agg #[]) := by kernel_rfl
@[go_sem] theorem tsz155 : tsz Tryd.prog 155 = some 1 := by kernel_rfl
@[go_sem] theorem tby155 : tby Tryd.prog 155 = some 1 := by kernel_rfl
@[go_sem] theorem tzero155 : tzero Tryd.prog 155 = some (.int .u8 0) := by kernel_rfl
@[go_sem] theorem tsz156 : tsz Tryd.prog 156 = some 1 := by kernel_rfl
@[go_sem] theorem tby156 : tby Tryd.prog 156 = some 1 := by kernel_rfl
@[go_sem] theorem tzero156 : tzero Tryd.prog 156 = some (.int .u8 0) := by kernel_rfl
@[go_sem] theorem tsz158 : tsz Tryd.prog 158 = some 1 := by kernel_rfl
@[go_sem] theorem tby158 : tby Tryd.prog 158 = some 4 := by kernel_rfl
@[go_sem] theorem tzero158 : tzero Tryd.prog 158 = some (.int .i32 0) := by kernel_rfl
@[go_sem] theorem tsz159 : tsz Tryd.prog 159 = some 1 := by kernel_rfl
@[go_sem] theorem tby159 : tby Tryd.prog 159 = some 4 := by kernel_rfl
@[go_sem] theorem tzero159 : tzero Tryd.prog 159 = some (.int .i32 0) := by kernel_rfl
@[go_sem] theorem tsz160 : tsz Tryd.prog 160 = some 11 := by kernel_rfl
@[go_sem] theorem tby160 : tby Tryd.prog 160 = some 48 := by kernel_rfl
@[go_sem] theorem tzero160 : tzero Tryd.prog 160 = some (.agg #[(.int .u64 0), (.int .u64 0), (.int .u32 0), (.int .u8 0), (.int .u8 0), (.int .u8 0), (.int .u8 0), .nilFunc, (.pointer none), (.int .i32 0), (.int .i32 0)]) := by kernel_rfl
@[go_sem] theorem tsz161 : tsz Tryd.prog 161 = some 11 := by kernel_rfl
@[go_sem] theorem tby161 : tby Tryd.prog 161 = some 48 := by kernel_rfl
@[go_sem] theorem tzero161 : tzero Tryd.prog 161 = some (.agg #[(.int .u64 0), (.int .u64 0), (.int .u32 0), (.int .u8 0), (.int .u8 0), (.int .u8 0), (.int .u8 0), .nilFunc, (.pointer none), (.int .i32 0), (.int .i32 0)]) := by kernel_rfl
@[go_sem] theorem und0 : Tryd.prog.underlying 0 = some (Go.TypeDesc.tuple #[]) := Tryd.underlying0
@[go_sem] theorem und1 : Tryd.prog.underlying 1 = some (Go.TypeDesc.func #[] #[] false) := Tryd.underlying1
@[go_sem] theorem und2 : Tryd.prog.underlying 2 = some (Go.TypeDesc.int Go.IntKind.i64) := Tryd.underlying2
@[go_sem] theorem und3 : Tryd.prog.underlying 3 = some (Go.TypeDesc.int Go.IntKind.i64) := Tryd.underlying3
@[go_sem] theorem und4 : Tryd.prog.underlying 4 = some Go.TypeDesc.bool := Tryd.underlying4
@[go_sem] theorem und5 : Tryd.prog.underlying 5 = some (Go.TypeDesc.int Go.IntKind.u8) := Tryd.underlying5
@[go_sem] theorem und6 : Tryd.prog.underlying 6 = some (Go.TypeDesc.int Go.IntKind.u8) := Tryd.underlying6
@[go_sem] theorem und7 : Tryd.prog.underlying 7 = some (Go.TypeDesc.struct #[{ name := "x", type := 2, offset := 0, embedded := false, tag := "", pkgPath := "runtime", byteOffset := 0 }, { name := "y", type := 3, offset := 1, embedded := false, tag := "", pkgPath := "runtime", byteOffset := 8 }, { name := "signed", type := 4, offset := 2, embedded := false, tag := "", pkgPath := "runtime", byteOffset := 16 }, { name := "code", type := 6, offset := 3, embedded := false, tag := "", pkgPath := "runtime", byteOffset := 17 }]) := Tryd.underlying7
@[go_sem] theorem und8 : Tryd.prog.underlying 8 = some (Go.TypeDesc.struct #[{ name := "x", type := 2, offset := 0, embedded := false, tag := "", pkgPath := "runtime", byteOffset := 0 }, { name := "y", type := 3, offset := 1, embedded := false, tag := "", pkgPath := "runtime", byteOffset := 8 }, { name := "signed", type := 4, offset := 2, embedded := false, tag := "", pkgPath := "runtime", byteOffset := 16 }, { name := "code", type := 6, offset := 3, embedded := false, tag := "", pkgPath := "runtime", byteOffset := 17 }]) := Tryd.underlying8
@[go_sem] theorem und9 : Tryd.prog.underlying 9 = some Go.TypeDesc.string := Tryd.underlying9
@[go_sem] theorem und10 : Tryd.prog.underlying 10 = some Go.TypeDesc.string := Tryd.underlying10
@[go_sem] theorem und11 : Tryd.prog.underlying 11 = some Go.TypeDesc.string := Tryd.underlying11
@[go_sem] theorem und12 : Tryd.prog.underlying 12 = some (Go.TypeDesc.int Go.IntKind.u64) := Tryd.underlying12
@[go_sem] theorem und13 : Tryd.prog.underlying 13 = some (Go.TypeDesc.struct #[{ name := "msg", type := 9, offset := 0, embedded := false, tag := "", pkgPath := "runtime", byteOffset := 0 }, { name := "addr", type := 12, offset := 1, embedded := false, tag := "", pkgPath := "runtime", byteOffset := 16 }]) := Tryd.underlying13
@[go_sem] theorem und14 : Tryd.prog.underlying 14 = some (Go.TypeDesc.struct #[{ name := "msg", type := 9, offset := 0, embedded := false, tag := "", pkgPath := "runtime", byteOffset := 0 }, { name := "addr", type := 12, offset := 1, embedded := false, tag := "", pkgPath := "runtime", byteOffset := 16 }]) := Tryd.underlying14
@[go_sem] theorem und15 : Tryd.prog.underlying 15 = some (Go.TypeDesc.pointer 151) := Tryd.underlying15
@[go_sem] theorem und16 : Tryd.prog.underlying 16 = some (Go.TypeDesc.pointer 154) := Tryd.underlying16
@[go_sem] theorem und17 : Tryd.prog.underlying 17 = some (Go.TypeDesc.pointer 161) := Tryd.underlying17
@[go_sem] theorem und18 : Tryd.prog.underlying 18 = some (Go.TypeDesc.struct #[{ name := "typ", type := 17, offset := 0, embedded := false, tag := "", pkgPath := "internal/runtime/maps", byteOffset := 0 }]) := Tryd.underlying18
@[go_sem] theorem und19 : Tryd.prog.underlying 19 = some (Go.TypeDesc.struct #[{ name := "typ", type := 17, offset := 0, embedded := false, tag := "", pkgPath := "internal/runtime/maps", byteOffset := 0 }]) := Tryd.underlying19
@[go_sem] theorem und20 : Tryd.prog.underlying 20 = some (Go.TypeDesc.interface #[]) := Tryd.underlying20
@[go_sem] theorem und21 : Tryd.prog.underlying 21 = some (Go.TypeDesc.int Go.IntKind.i32) := Tryd.underlying21
@[go_sem] theorem und22 : Tryd.prog.underlying 22 = some (Go.TypeDesc.int Go.IntKind.i64) := Tryd.underlying22
@[go_sem] theorem und23 : Tryd.prog.underlying 23 = some (Go.TypeDesc.slice 9) := Tryd.underlying23
@[go_sem] theorem und24 : Tryd.prog.underlying 24 = some (Go.TypeDesc.slice 26) := Tryd.underlying24
@[go_sem] theorem und25 : Tryd.prog.underlying 25 = some (Go.TypeDesc.struct #[{ name := "Kind", type := 22, offset := 0, embedded := false, tag := "", pkgPath := "", byteOffset := 0 }, { name := "Text", type := 9, offset := 1, embedded := false, tag := "", pkgPath := "", byteOffset := 8 }, { name := "Names", type := 23, offset := 2, embedded := false, tag := "", pkgPath := "", byteOffset := 24 }, { name := "Values", type := 24, offset := 3, embedded := false, tag := "", pkgPath := "", byteOffset := 48 }]) := Tryd.underlying25
@[go_sem] theorem und26 : Tryd.prog.underlying 26 = some (Go.TypeDesc.struct #[{ name := "Kind", type := 22, offset := 0, embedded := false, tag := "", pkgPath := "", byteOffset := 0 }, { name := "Text", type := 9, offset := 1, embedded := false, tag := "", pkgPath := "", byteOffset := 8 }, { name := "Names", type := 23, offset := 2, embedded := false, tag := "", pkgPath := "", byteOffset := 24 }, { name := "Values", type := 24, offset := 3, embedded := false, tag := "", pkgPath := "", byteOffset := 48 }]) := Tryd.underlying26
@[go_sem] theorem und27 : Tryd.prog.underlying 27 = some (Go.TypeDesc.slice 40) := Tryd.underlying27
@[go_sem] theorem und28 : Tryd.prog.underlying 28 = some (Go.TypeDesc.array 2 27) := Tryd.underlying28
@[go_sem] theorem und29 : Tryd.prog.underlying 29 = some (Go.TypeDesc.func #[] #[4] false) := Tryd.underlying29
@[go_sem] theorem und30 : Tryd.prog.underlying 30 = some (Go.TypeDesc.func #[26] #[4] false) := Tryd.underlying30
@[go_sem] theorem und31 : Tryd.prog.underlying 31 = some (Go.TypeDesc.int Go.IntKind.i64) := Tryd.underlying31
@[go_sem] theorem und32 : Tryd.prog.underlying 32 = some (Go.TypeDesc.func #[26, 3, 27] #[31] true) := Tryd.underlying32
@[go_sem] theorem und33 : Tryd.prog.underlying 33 = some (Go.TypeDesc.func #[26, 3, 28] #[4] false) := Tryd.underlying33
@[go_sem] theorem und34 : Tryd.prog.underlying 34 = some (Go.TypeDesc.tuple #[9, 31]) := Tryd.underlying34
@[go_sem] theorem und35 : Tryd.prog.underlying 35 = some (Go.TypeDesc.func #[3] #[9, 31] false) := Tryd.underlying35
@[go_sem] theorem und36 : Tryd.prog.underlying 36 = some (Go.TypeDesc.func #[23] #[26] true) := Tryd.underlying36
@[go_sem] theorem und37 : Tryd.prog.underlying 37 = some (Go.TypeDesc.func #[26] #[31] false) := Tryd.underlying37
@[go_sem] theorem und38 : Tryd.prog.underlying 38 = some (Go.TypeDesc.int Go.IntKind.i64) := Tryd.underlying38
@[go_sem] theorem und39 : Tryd.prog.underlying 39 = some (Go.TypeDesc.struct #[{ name := "Ask", type := 38, offset := 0, embedded := false, tag := "", pkgPath := "", byteOffset := 0 }, { name := "Name", type := 9, offset := 1, embedded := false, tag := "", pkgPath := "", byteOffset := 8 }, { name := "Want", type := 9, offset := 2, embedded := false, tag := "", pkgPath := "", byteOffset := 24 }]) := Tryd.underlying39
@[go_sem] theorem und40 : Tryd.prog.underlying 40 = some (Go.TypeDesc.struct #[{ name := "Ask", type := 38, offset := 0, embedded := false, tag := "", pkgPath := "", byteOffset := 0 }, { name := "Name", type := 9, offset := 1, embedded := false, tag := "", pkgPath := "", byteOffset := 8 }, { name := "Want", type := 9, offset := 2, embedded := false, tag := "", pkgPath := "", byteOffset := 24 }]) := Tryd.underlying40
@[go_sem] theorem und41 : Tryd.prog.underlying 41 = some (Go.TypeDesc.func #[3, 3, 9] #[4] false) := Tryd.underlying41
@[go_sem] theorem und42 : Tryd.prog.underlying 42 = some (Go.TypeDesc.struct #[{ name := "Issuer", type := 9, offset := 0, embedded := false, tag := "", pkgPath := "", byteOffset := 0 }, { name := "Audience", type := 9, offset := 1, embedded := false, tag := "", pkgPath := "", byteOffset := 16 }, { name := "From", type := 3, offset := 2, embedded := false, tag := "", pkgPath := "", byteOffset := 32 }, { name := "To", type := 3, offset := 3, embedded := false, tag := "", pkgPath := "", byteOffset := 40 }, { name := "More", type := 23, offset := 4, embedded := false, tag := "", pkgPath := "", byteOffset := 48 }]) := Tryd.underlying42
@[go_sem] theorem und43 : Tryd.prog.underlying 43 = some (Go.TypeDesc.struct #[{ name := "Issuer", type := 9, offset := 0, embedded := false, tag := "", pkgPath := "", byteOffset := 0 }, { name := "Audience", type := 9, offset := 1, embedded := false, tag := "", pkgPath := "", byteOffset := 16 }, { name := "From", type := 3, offset := 2, embedded := false, tag := "", pkgPath := "", byteOffset := 32 }, { name := "To", type := 3, offset := 3, embedded := false, tag := "", pkgPath := "", byteOffset := 40 }, { name := "More", type := 23, offset := 4, embedded := false, tag := "", pkgPath := "", byteOffset := 48 }]) := Tryd.underlying43
@[go_sem] theorem und44 : Tryd.prog.underlying 44 = some (Go.TypeDesc.tuple #[26, 31]) := Tryd.underlying44
@[go_sem] theorem und45 : Tryd.prog.underlying 45 = some (Go.TypeDesc.func #[9, 9, 3, 3, 23] #[26, 31] true) := Tryd.underlying45
@[go_sem] theorem und46 : Tryd.prog.underlying 46 = some (Go.TypeDesc.array 2 3) := Tryd.underlying46
@[go_sem] theorem und47 : Tryd.prog.underlying 47 = some (Go.TypeDesc.func #[] #[3] false) := Tryd.underlying47
@[go_sem] theorem und48 : Tryd.prog.underlying 48 = some (Go.TypeDesc.func #[26, 26] #[4] false) := Tryd.underlying48
@[go_sem] theorem und49 : Tryd.prog.underlying 49 = some (Go.TypeDesc.func #[9, 9] #[27] false) := Tryd.underlying49
@[go_sem] theorem und50 : Tryd.prog.underlying 50 = some (Go.TypeDesc.func #[43, 3] #[4] false) := Tryd.underlying50
@[go_sem] theorem und51 : Tryd.prog.underlying 51 = some (Go.TypeDesc.struct #[{ name := "Value", type := 26, offset := 0, embedded := true, tag := "", pkgPath := "", byteOffset := 0 }, { name := "now", type := 3, offset := 4, embedded := false, tag := "", pkgPath := "escutcheon/claim", byteOffset := 72 }]) := Tryd.underlying51
@[go_sem] theorem und52 : Tryd.prog.underlying 52 = some (Go.TypeDesc.struct #[{ name := "Value", type := 26, offset := 0, embedded := true, tag := "", pkgPath := "", byteOffset := 0 }, { name := "now", type := 3, offset := 4, embedded := false, tag := "", pkgPath := "escutcheon/claim", byteOffset := 72 }]) := Tryd.underlying52
@[go_sem] theorem und53 : Tryd.prog.underlying 53 = some (Go.TypeDesc.func #[40] #[31] false) := Tryd.underlying53
@[go_sem] theorem und54 : Tryd.prog.underlying 54 = some (Go.TypeDesc.func #[3] #[4] false) := Tryd.underlying54
@[go_sem] theorem und55 : Tryd.prog.underlying 55 = some (Go.TypeDesc.struct #[{ name := "year", type := 3, offset := 0, embedded := false, tag := "", pkgPath := "escutcheon/hour", byteOffset := 0 }, { name := "month", type := 3, offset := 1, embedded := false, tag := "", pkgPath := "escutcheon/hour", byteOffset := 8 }, { name := "day", type := 3, offset := 2, embedded := false, tag := "", pkgPath := "escutcheon/hour", byteOffset := 16 }]) := Tryd.underlying55
@[go_sem] theorem und56 : Tryd.prog.underlying 56 = some (Go.TypeDesc.struct #[{ name := "year", type := 3, offset := 0, embedded := false, tag := "", pkgPath := "escutcheon/hour", byteOffset := 0 }, { name := "month", type := 3, offset := 1, embedded := false, tag := "", pkgPath := "escutcheon/hour", byteOffset := 8 }, { name := "day", type := 3, offset := 2, embedded := false, tag := "", pkgPath := "escutcheon/hour", byteOffset := 16 }]) := Tryd.underlying56
@[go_sem] theorem und57 : Tryd.prog.underlying 57 = some (Go.TypeDesc.struct #[{ name := "date", type := 56, offset := 0, embedded := true, tag := "", pkgPath := "escutcheon/hour", byteOffset := 0 }, { name := "hour", type := 3, offset := 3, embedded := false, tag := "", pkgPath := "escutcheon/hour", byteOffset := 24 }, { name := "minute", type := 3, offset := 4, embedded := false, tag := "", pkgPath := "escutcheon/hour", byteOffset := 32 }, { name := "second", type := 3, offset := 5, embedded := false, tag := "", pkgPath := "escutcheon/hour", byteOffset := 40 }]) := Tryd.underlying57
@[go_sem] theorem und58 : Tryd.prog.underlying 58 = some (Go.TypeDesc.struct #[{ name := "date", type := 56, offset := 0, embedded := true, tag := "", pkgPath := "escutcheon/hour", byteOffset := 0 }, { name := "hour", type := 3, offset := 3, embedded := false, tag := "", pkgPath := "escutcheon/hour", byteOffset := 24 }, { name := "minute", type := 3, offset := 4, embedded := false, tag := "", pkgPath := "escutcheon/hour", byteOffset := 32 }, { name := "second", type := 3, offset := 5, embedded := false, tag := "", pkgPath := "escutcheon/hour", byteOffset := 40 }]) := Tryd.underlying58
@[go_sem] theorem und59 : Tryd.prog.underlying 59 = some (Go.TypeDesc.func #[3] #[58] false) := Tryd.underlying59
@[go_sem] theorem und60 : Tryd.prog.underlying 60 = some (Go.TypeDesc.pointer 63) := Tryd.underlying60
@[go_sem] theorem und61 : Tryd.prog.underlying 61 = some (Go.TypeDesc.slice 5) := Tryd.underlying61
@[go_sem] theorem und62 : Tryd.prog.underlying 62 = some (Go.TypeDesc.struct #[{ name := "addr", type := 60, offset := 0, embedded := false, tag := "", pkgPath := "strings", byteOffset := 0 }, { name := "buf", type := 61, offset := 1, embedded := false, tag := "", pkgPath := "strings", byteOffset := 8 }]) := Tryd.underlying62
@[go_sem] theorem und63 : Tryd.prog.underlying 63 = some (Go.TypeDesc.struct #[{ name := "addr", type := 60, offset := 0, embedded := false, tag := "", pkgPath := "strings", byteOffset := 0 }, { name := "buf", type := 61, offset := 1, embedded := false, tag := "", pkgPath := "strings", byteOffset := 8 }]) := Tryd.underlying63
@[go_sem] theorem und64 : Tryd.prog.underlying 64 = some (Go.TypeDesc.interface #[("Error", 70)]) := Tryd.underlying64
@[go_sem] theorem und65 : Tryd.prog.underlying 65 = some (Go.TypeDesc.interface #[("Error", 70)]) := Tryd.underlying65
@[go_sem] theorem und66 : Tryd.prog.underlying 66 = some (Go.TypeDesc.tuple #[3, 65]) := Tryd.underlying66
@[go_sem] theorem und67 : Tryd.prog.underlying 67 = some (Go.TypeDesc.func #[9] #[3, 65] false) := Tryd.underlying67
@[go_sem] theorem und68 : Tryd.prog.underlying 68 = some (Go.TypeDesc.func #[3, 3] #[9] false) := Tryd.underlying68
@[go_sem] theorem und69 : Tryd.prog.underlying 69 = some (Go.TypeDesc.array 5 3) := Tryd.underlying69
@[go_sem] theorem und70 : Tryd.prog.underlying 70 = some (Go.TypeDesc.func #[] #[9] false) := Tryd.underlying70
@[go_sem] theorem und71 : Tryd.prog.underlying 71 = some (Go.TypeDesc.func #[87] #[] false) := Tryd.underlying71
@[go_sem] theorem und72 : Tryd.prog.underlying 72 = some (Go.TypeDesc.func #[87] #[] false) := Tryd.underlying72
@[go_sem] theorem und73 : Tryd.prog.underlying 73 = some (Go.TypeDesc.func #[23, 3] #[72] false) := Tryd.underlying73
@[go_sem] theorem und74 : Tryd.prog.underlying 74 = some (Go.TypeDesc.func #[3] #[31] false) := Tryd.underlying74
@[go_sem] theorem und75 : Tryd.prog.underlying 75 = some (Go.TypeDesc.func #[88] #[23] true) := Tryd.underlying75
@[go_sem] theorem und76 : Tryd.prog.underlying 76 = some (Go.TypeDesc.func #[3, 3, 3, 3, 3, 3] #[3] false) := Tryd.underlying76
@[go_sem] theorem und77 : Tryd.prog.underlying 77 = some (Go.TypeDesc.func #[23, 23] #[4] false) := Tryd.underlying77
@[go_sem] theorem und78 : Tryd.prog.underlying 78 = some (Go.TypeDesc.func #[24, 24, 48] #[4] false) := Tryd.underlying78
@[go_sem] theorem und79 : Tryd.prog.underlying 79 = some (Go.TypeDesc.tuple #[9, 4]) := Tryd.underlying79
@[go_sem] theorem und80 : Tryd.prog.underlying 80 = some (Go.TypeDesc.func #[9] #[9, 4] false) := Tryd.underlying80
@[go_sem] theorem und81 : Tryd.prog.underlying 81 = some (Go.TypeDesc.func #[9, 3] #[31] false) := Tryd.underlying81
@[go_sem] theorem und82 : Tryd.prog.underlying 82 = some (Go.TypeDesc.func #[3] #[3] false) := Tryd.underlying82
@[go_sem] theorem und83 : Tryd.prog.underlying 83 = some (Go.TypeDesc.func #[3, 3] #[3] false) := Tryd.underlying83
@[go_sem] theorem und84 : Tryd.prog.underlying 84 = some (Go.TypeDesc.func #[3] #[9] false) := Tryd.underlying84
@[go_sem] theorem und85 : Tryd.prog.underlying 85 = some (Go.TypeDesc.func #[9, 3] #[9] false) := Tryd.underlying85
@[go_sem] theorem und86 : Tryd.prog.underlying 86 = some (Go.TypeDesc.pointer 5) := Tryd.underlying86
@[go_sem] theorem und87 : Tryd.prog.underlying 87 = some (Go.TypeDesc.func #[23] #[4] false) := Tryd.underlying87
@[go_sem] theorem und88 : Tryd.prog.underlying 88 = some (Go.TypeDesc.slice 23) := Tryd.underlying88
@[go_sem] theorem und89 : Tryd.prog.underlying 89 = some (Go.TypeDesc.func #[23, 3] #[23] false) := Tryd.underlying89
@[go_sem] theorem und90 : Tryd.prog.underlying 90 = some (Go.TypeDesc.tuple #[26, 4]) := Tryd.underlying90
@[go_sem] theorem und91 : Tryd.prog.underlying 91 = some (Go.TypeDesc.func #[9] #[26, 4] false) := Tryd.underlying91
@[go_sem] theorem und92 : Tryd.prog.underlying 92 = some (Go.TypeDesc.tuple #[3, 31]) := Tryd.underlying92
@[go_sem] theorem und93 : Tryd.prog.underlying 93 = some (Go.TypeDesc.func #[9] #[3, 31] false) := Tryd.underlying93
@[go_sem] theorem und94 : Tryd.prog.underlying 94 = some (Go.TypeDesc.array 12 3) := Tryd.underlying94
@[go_sem] theorem und95 : Tryd.prog.underlying 95 = some Go.TypeDesc.unsafePointer := Tryd.underlying95
@[go_sem] theorem und96 : Tryd.prog.underlying 96 = some (Go.TypeDesc.func #[95] #[95] false) := Tryd.underlying96
@[go_sem] theorem und97 : Tryd.prog.underlying 97 = some (Go.TypeDesc.int Go.IntKind.u64) := Tryd.underlying97
@[go_sem] theorem und98 : Tryd.prog.underlying 98 = some (Go.TypeDesc.tuple #[97, 97]) := Tryd.underlying98
@[go_sem] theorem und99 : Tryd.prog.underlying 99 = some (Go.TypeDesc.func #[97, 97] #[97, 97] false) := Tryd.underlying99
@[go_sem] theorem und100 : Tryd.prog.underlying 100 = some (Go.TypeDesc.func #[9, 9] #[4] false) := Tryd.underlying100
@[go_sem] theorem und101 : Tryd.prog.underlying 101 = some (Go.TypeDesc.func #[3] #[] false) := Tryd.underlying101
@[go_sem] theorem und102 : Tryd.prog.underlying 102 = some (Go.TypeDesc.func #[9] #[3] false) := Tryd.underlying102
@[go_sem] theorem und103 : Tryd.prog.underlying 103 = some (Go.TypeDesc.func #[9] #[4] false) := Tryd.underlying103
@[go_sem] theorem und104 : Tryd.prog.underlying 104 = some (Go.TypeDesc.func #[23, 103] #[4] false) := Tryd.underlying104
@[go_sem] theorem und105 : Tryd.prog.underlying 105 = some (Go.TypeDesc.func #[23, 9] #[4] false) := Tryd.underlying105
@[go_sem] theorem und106 : Tryd.prog.underlying 106 = some (Go.TypeDesc.func #[23, 9] #[3] false) := Tryd.underlying106
@[go_sem] theorem und107 : Tryd.prog.underlying 107 = some (Go.TypeDesc.func #[2, 3] #[9] false) := Tryd.underlying107
@[go_sem] theorem und108 : Tryd.prog.underlying 108 = some (Go.TypeDesc.int Go.IntKind.u32) := Tryd.underlying108
@[go_sem] theorem und109 : Tryd.prog.underlying 109 = some (Go.TypeDesc.tuple #[108, 108]) := Tryd.underlying109
@[go_sem] theorem und110 : Tryd.prog.underlying 110 = some (Go.TypeDesc.func #[108, 108] #[108, 108] false) := Tryd.underlying110
@[go_sem] theorem und111 : Tryd.prog.underlying 111 = some (Go.TypeDesc.int Go.IntKind.u64) := Tryd.underlying111
@[go_sem] theorem und112 : Tryd.prog.underlying 112 = some (Go.TypeDesc.tuple #[111, 111]) := Tryd.underlying112
@[go_sem] theorem und113 : Tryd.prog.underlying 113 = some (Go.TypeDesc.func #[111, 111] #[111, 111] false) := Tryd.underlying113
@[go_sem] theorem und114 : Tryd.prog.underlying 114 = some (Go.TypeDesc.func #[9] #[12] false) := Tryd.underlying114
@[go_sem] theorem und115 : Tryd.prog.underlying 115 = some (Go.TypeDesc.array 256 5) := Tryd.underlying115
@[go_sem] theorem und116 : Tryd.prog.underlying 116 = some (Go.TypeDesc.struct #[{ name := "lo", type := 5, offset := 0, embedded := false, tag := "", pkgPath := "unicode/utf8", byteOffset := 0 }, { name := "hi", type := 5, offset := 1, embedded := false, tag := "", pkgPath := "unicode/utf8", byteOffset := 1 }]) := Tryd.underlying116
@[go_sem] theorem und117 : Tryd.prog.underlying 117 = some (Go.TypeDesc.struct #[{ name := "lo", type := 5, offset := 0, embedded := false, tag := "", pkgPath := "unicode/utf8", byteOffset := 0 }, { name := "hi", type := 5, offset := 1, embedded := false, tag := "", pkgPath := "unicode/utf8", byteOffset := 1 }]) := Tryd.underlying117
@[go_sem] theorem und118 : Tryd.prog.underlying 118 = some (Go.TypeDesc.array 16 117) := Tryd.underlying118
@[go_sem] theorem und119 : Tryd.prog.underlying 119 = some (Go.TypeDesc.func #[23, 103] #[3] false) := Tryd.underlying119
@[go_sem] theorem und120 : Tryd.prog.underlying 120 = some (Go.TypeDesc.array 24 5) := Tryd.underlying120
@[go_sem] theorem und121 : Tryd.prog.underlying 121 = some (Go.TypeDesc.func #[111] #[3] false) := Tryd.underlying121
@[go_sem] theorem und122 : Tryd.prog.underlying 122 = some (Go.TypeDesc.func #[61, 111] #[] false) := Tryd.underlying122
@[go_sem] theorem und123 : Tryd.prog.underlying 123 = some (Go.TypeDesc.tuple #[61, 9]) := Tryd.underlying123
@[go_sem] theorem und124 : Tryd.prog.underlying 124 = some (Go.TypeDesc.func #[61, 111, 3, 4, 4] #[61, 9] false) := Tryd.underlying124
@[go_sem] theorem und125 : Tryd.prog.underlying 125 = some (Go.TypeDesc.func #[3] #[61] false) := Tryd.underlying125
@[go_sem] theorem und126 : Tryd.prog.underlying 126 = some (Go.TypeDesc.func #[9, 9, 3, 3, 65] #[65] false) := Tryd.underlying126
@[go_sem] theorem und127 : Tryd.prog.underlying 127 = some (Go.TypeDesc.func #[4] #[3] false) := Tryd.underlying127
@[go_sem] theorem und128 : Tryd.prog.underlying 128 = some (Go.TypeDesc.array 20 111) := Tryd.underlying128
@[go_sem] theorem und129 : Tryd.prog.underlying 129 = some (Go.TypeDesc.array 65 5) := Tryd.underlying129
@[go_sem] theorem und130 : Tryd.prog.underlying 130 = some (Go.TypeDesc.func #[97] #[3] false) := Tryd.underlying130
@[go_sem] theorem und131 : Tryd.prog.underlying 131 = some (Go.TypeDesc.int Go.IntKind.i64) := Tryd.underlying131
@[go_sem] theorem und132 : Tryd.prog.underlying 132 = some (Go.TypeDesc.tuple #[2, 65]) := Tryd.underlying132
@[go_sem] theorem und133 : Tryd.prog.underlying 133 = some (Go.TypeDesc.func #[9, 3, 3] #[2, 65] false) := Tryd.underlying133
@[go_sem] theorem und134 : Tryd.prog.underlying 134 = some (Go.TypeDesc.pointer 142) := Tryd.underlying134
@[go_sem] theorem und135 : Tryd.prog.underlying 135 = some (Go.TypeDesc.func #[9, 9] #[134] false) := Tryd.underlying135
@[go_sem] theorem und136 : Tryd.prog.underlying 136 = some (Go.TypeDesc.func #[9, 9, 3] #[134] false) := Tryd.underlying136
@[go_sem] theorem und137 : Tryd.prog.underlying 137 = some (Go.TypeDesc.func #[108] #[3] false) := Tryd.underlying137
@[go_sem] theorem und138 : Tryd.prog.underlying 138 = some (Go.TypeDesc.tuple #[111, 65]) := Tryd.underlying138
@[go_sem] theorem und139 : Tryd.prog.underlying 139 = some (Go.TypeDesc.func #[9, 3, 3] #[111, 65] false) := Tryd.underlying139
@[go_sem] theorem und140 : Tryd.prog.underlying 140 = some (Go.TypeDesc.func #[9] #[9] false) := Tryd.underlying140
@[go_sem] theorem und141 : Tryd.prog.underlying 141 = some (Go.TypeDesc.struct #[{ name := "Func", type := 9, offset := 0, embedded := false, tag := "", pkgPath := "", byteOffset := 0 }, { name := "Num", type := 9, offset := 1, embedded := false, tag := "", pkgPath := "", byteOffset := 16 }, { name := "Err", type := 65, offset := 2, embedded := false, tag := "", pkgPath := "", byteOffset := 32 }]) := Tryd.underlying141
@[go_sem] theorem und142 : Tryd.prog.underlying 142 = some (Go.TypeDesc.struct #[{ name := "Func", type := 9, offset := 0, embedded := false, tag := "", pkgPath := "", byteOffset := 0 }, { name := "Num", type := 9, offset := 1, embedded := false, tag := "", pkgPath := "", byteOffset := 16 }, { name := "Err", type := 65, offset := 2, embedded := false, tag := "", pkgPath := "", byteOffset := 32 }]) := Tryd.underlying142
@[go_sem] theorem und143 : Tryd.prog.underlying 143 = some (Go.TypeDesc.func #[9] #[65] false) := Tryd.underlying143
@[go_sem] theorem und144 : Tryd.prog.underlying 144 = some (Go.TypeDesc.array 32 5) := Tryd.underlying144
@[go_sem] theorem und145 : Tryd.prog.underlying 145 = some (Go.TypeDesc.array 64 5) := Tryd.underlying145
@[go_sem] theorem und146 : Tryd.prog.underlying 146 = some (Go.TypeDesc.func #[5] #[5] false) := Tryd.underlying146
@[go_sem] theorem und147 : Tryd.prog.underlying 147 = some (Go.TypeDesc.pointer 149) := Tryd.underlying147
@[go_sem] theorem und148 : Tryd.prog.underlying 148 = some (Go.TypeDesc.struct #[{ name := "s", type := 9, offset := 0, embedded := false, tag := "", pkgPath := "errors", byteOffset := 0 }]) := Tryd.underlying148
@[go_sem] theorem und149 : Tryd.prog.underlying 149 = some (Go.TypeDesc.struct #[{ name := "s", type := 9, offset := 0, embedded := false, tag := "", pkgPath := "errors", byteOffset := 0 }]) := Tryd.underlying149
@[go_sem] theorem und150 : Tryd.prog.underlying 150 = some (Go.TypeDesc.struct #[{ name := "_interface", type := 17, offset := 0, embedded := false, tag := "", pkgPath := "runtime", byteOffset := 0 }, { name := "concrete", type := 17, offset := 1, embedded := false, tag := "", pkgPath := "runtime", byteOffset := 8 }, { name := "asserted", type := 17, offset := 2, embedded := false, tag := "", pkgPath := "runtime", byteOffset := 16 }, { name := "missingMethod", type := 9, offset := 3, embedded := false, tag := "", pkgPath := "runtime", byteOffset := 24 }]) := Tryd.underlying150
@[go_sem] theorem und151 : Tryd.prog.underlying 151 = some (Go.TypeDesc.struct #[{ name := "_interface", type := 17, offset := 0, embedded := false, tag := "", pkgPath := "runtime", byteOffset := 0 }, { name := "concrete", type := 17, offset := 1, embedded := false, tag := "", pkgPath := "runtime", byteOffset := 8 }, { name := "asserted", type := 17, offset := 2, embedded := false, tag := "", pkgPath := "runtime", byteOffset := 16 }, { name := "missingMethod", type := 9, offset := 3, embedded := false, tag := "", pkgPath := "runtime", byteOffset := 24 }]) := Tryd.underlying151
@[go_sem] theorem und152 : Tryd.prog.underlying 152 = some (Go.TypeDesc.array 0 16) := Tryd.underlying152
@[go_sem] theorem und153 : Tryd.prog.underlying 153 = some (Go.TypeDesc.struct #[{ name := "_", type := 152, offset := 0, embedded := false, tag := "", pkgPath := "runtime", byteOffset := 0 }]) := Tryd.underlying153
@[go_sem] theorem und154 : Tryd.prog.underlying 154 = some (Go.TypeDesc.struct #[{ name := "_", type := 152, offset := 0, embedded := false, tag := "", pkgPath := "runtime", byteOffset := 0 }]) := Tryd.underlying154
@[go_sem] theorem und155 : Tryd.prog.underlying 155 = some (Go.TypeDesc.int Go.IntKind.u8) := Tryd.underlying155
@[go_sem] theorem und156 : Tryd.prog.underlying 156 = some (Go.TypeDesc.int Go.IntKind.u8) := Tryd.underlying156
@[go_sem] theorem und157 : Tryd.prog.underlying 157 = some (Go.TypeDesc.func #[95, 95] #[4] false) := Tryd.underlying157
@[go_sem] theorem und158 : Tryd.prog.underlying 158 = some (Go.TypeDesc.int Go.IntKind.i32) := Tryd.underlying158
@[go_sem] theorem und159 : Tryd.prog.underlying 159 = some (Go.TypeDesc.int Go.IntKind.i32) := Tryd.underlying159
@[go_sem] theorem und160 : Tryd.prog.underlying 160 = some (Go.TypeDesc.struct #[{ name := "Size_", type := 12, offset := 0, embedded := false, tag := "", pkgPath := "", byteOffset := 0 }, { name := "PtrBytes", type := 12, offset := 1, embedded := false, tag := "", pkgPath := "", byteOffset := 8 }, { name := "Hash", type := 108, offset := 2, embedded := false, tag := "", pkgPath := "", byteOffset := 16 }, { name := "TFlag", type := 155, offset := 3, embedded := false, tag := "", pkgPath := "", byteOffset := 20 }, { name := "Align_", type := 5, offset := 4, embedded := false, tag := "", pkgPath := "", byteOffset := 21 }, { name := "FieldAlign_", type := 5, offset := 5, embedded := false, tag := "", pkgPath := "", byteOffset := 22 }, { name := "Kind_", type := 156, offset := 6, embedded := false, tag := "", pkgPath := "", byteOffset := 23 }, { name := "Equal", type := 157, offset := 7, embedded := false, tag := "", pkgPath := "", byteOffset := 24 }, { name := "GCData", type := 86, offset := 8, embedded := false, tag := "", pkgPath := "", byteOffset := 32 }, { name := "Str", type := 158, offset := 9, embedded := false, tag := "", pkgPath := "", byteOffset := 40 }, { name := "PtrToThis", type := 159, offset := 10, embedded := false, tag := "", pkgPath := "", byteOffset := 44 }]) := Tryd.underlying160
@[go_sem] theorem und161 : Tryd.prog.underlying 161 = some (Go.TypeDesc.struct #[{ name := "Size_", type := 12, offset := 0, embedded := false, tag := "", pkgPath := "", byteOffset := 0 }, { name := "PtrBytes", type := 12, offset := 1, embedded := false, tag := "", pkgPath := "", byteOffset := 8 }, { name := "Hash", type := 108, offset := 2, embedded := false, tag := "", pkgPath := "", byteOffset := 16 }, { name := "TFlag", type := 155, offset := 3, embedded := false, tag := "", pkgPath := "", byteOffset := 20 }, { name := "Align_", type := 5, offset := 4, embedded := false, tag := "", pkgPath := "", byteOffset := 21 }, { name := "FieldAlign_", type := 5, offset := 5, embedded := false, tag := "", pkgPath := "", byteOffset := 22 }, { name := "Kind_", type := 156, offset := 6, embedded := false, tag := "", pkgPath := "", byteOffset := 23 }, { name := "Equal", type := 157, offset := 7, embedded := false, tag := "", pkgPath := "", byteOffset := 24 }, { name := "GCData", type := 86, offset := 8, embedded := false, tag := "", pkgPath := "", byteOffset := 32 }, { name := "Str", type := 158, offset := 9, embedded := false, tag := "", pkgPath := "", byteOffset := 40 }, { name := "PtrToThis", type := 159, offset := 10, embedded := false, tag := "", pkgPath := "", byteOffset := 44 }]) := Tryd.underlying161
end Go.Abs.S
namespace Go.Abs.S
open Go.Proofs
set_option maxRecDepth 100000
def impCodC : FuncId → Bool := fun f => f == 20 || f == 22 || f == 35 || f == 51 || f == 67
/-- escutcheon/escutcheonlaw22.awake -/
def lc6 : LCode := .seq (.reg []
  [o1 0 (.assign (.const (.bool false)))]) (.seq (.reg []
  [o1 4 (.call ⟨.value (.func 12), #[.const (.string { data := #[105] }), .const (.string { data := #[97] }), .const (.int .i64 0), .const (.int .i64 5), .const (.slice none 0 0)], #[9, 9, 3, 3, 23]⟩),
  o1 3 (.move (.tmp 4)),
  o1 5 (.extract (.tmp 3) 0),
  o1 6 (.extract (.tmp 3) 1),
  o1 1 (.alloc 26),
  o3 (.store 26 (.tmp 1) (.tmp 5)),
  o1 2 (.assign (.tmp 6))]) (.seq (.reg [o1 7 (.move (.tmp 2)),
  o1 8 (.binOp .eql 31 (.tmp 7) (.const (.int .i64 0)) 31),
  o1 9 (.move (.tmp 8)),
  o2 10 (.load 26 (.tmp 1)) 9 true,
  o2 11 (.call ⟨.value (.func 16), #[.const (.string { data := #[105] }), .const (.string { data := #[97] })], #[9, 9]⟩) 9 true,
  o2 12 (.call ⟨.value (.func 8), #[.tmp 10, .const (.int .i64 5), .tmp 11], #[26, 3, 27]⟩) 9 true,
  o2 13 (.binOp .eql 31 (.tmp 12) (.const (.int .i64 14)) 31) 9 true,
  o1 14 (.pick (.tmp 9) (.tmp 13) (.const (.bool false))),
  o1 0 (.assign (.tmp 14))]
  []) (.ret)))
theorem ls6 : Tryd.f6.body.map (strip Tryd.prog impCodC) = some lc6 := by kernel_rfl
theorem lcall6 : LC 6 15 lc6 [.tmp 0] := LC.of Tryd.func6 (by kernel_rfl) ls6 (by kernel_rfl) (by kernel_rfl)
/-- escutcheon/claim.Check -/
def lc8 : LCode := .seq (.reg []
  [o1 3 (.box 26 (.tmp 0)),
  o1 6 (.assign (.const (.int .i64 0)))]) (.seq (.reg []
  [o1 11 (.load 26 (.tmp 3)),
  o1 12 (.move (.tmp 1)),
  o1 13 (.build 52 #[(0, .tmp 11), (1, .tmp 12)]),
  o1 7 (.alloc 52),
  o3 (.store 52 (.tmp 7) (.tmp 13))]) (.seq (.seq (.reg []
  [o1 14 (.fieldAddr 52 (.tmp 7) 0),
  o1 15 (.fieldAddr 26 (.tmp 14) 0),
  o1 16 (.load 22 (.tmp 15)),
  o1 17 (.binOp .neq 22 (.tmp 16) (.const (.int .i64 6)) 22),
  o1 18 (.move (.tmp 17)),
  o2 19 (.load 26 (.tmp 3)) 18 false,
  o2 20 (.call ⟨.value (.func 11), #[.tmp 19], #[26]⟩) 18 false,
  o2 21 (.binOp .neq 31 (.tmp 20) (.const (.int .i64 0)) 31) 18 false,
  o1 22 (.pick (.tmp 18) (.const (.bool true)) (.tmp 21))]) (.cond (.tmp 22) (.seq (.reg []
  [o1 6 (.assign (.const (.int .i64 2)))]) (.ret)) (.skip))) (.seq (.seq (.reg []
  [o1 23 (.move (.tmp 2)),
  o1 24 (.call ⟨.builtin .len, #[.tmp 23], #[27]⟩),
  o1 25 (.move (.const (.int .i64 0)))]) (.block 0 (.loop (.seq (.reg []
  [o1 26 (.binOp .lss 3 (.tmp 25) (.tmp 24) 3)]) (.seq (.cond (.tmp 26) (.skip) (.exit 0)) (.seq (.block 1 (.seq (.reg []
  [o1 27 (.indexAddr 27 (.tmp 23) (.tmp 25)),
  o1 28 (.load 40 (.tmp 27)),
  o1 9 (.alloc 40),
  o3 (.store 40 (.tmp 9) (.tmp 28))]) (.seq (.reg []
  [o1 29 (.load 52 (.tmp 7)),
  o1 30 (.load 40 (.tmp 9)),
  o1 31 (.call ⟨.value (.func 17), #[.tmp 29, .tmp 30], #[52, 40]⟩),
  o1 10 (.assign (.tmp 31))]) (.seq (.reg []
  [o1 32 (.move (.tmp 10)),
  o1 33 (.binOp .neq 31 (.tmp 32) (.const (.int .i64 0)) 31)]) (.cond (.tmp 33) (.seq (.reg []
  [o1 34 (.move (.tmp 10)),
  o1 6 (.assign (.tmp 34))]) (.ret)) (.skip)))))) (.reg []
  [o1 35 (.binOp .add 3 (.tmp 25) (.const (.int .i64 1)) 3),
  o1 25 (.move (.tmp 35))]))))))) (.seq (.reg []
  [o1 6 (.assign (.const (.int .i64 0)))]) (.ret)))))
def ms8_0 : List Nat := [0, 1, 2, 3, 4, 5, 6, 8, 9, 10, 11, 12, 13, 14, 15, 16, 17, 18, 19, 20, 21, 22, 25, 26, 27, 28, 29, 30, 31, 32, 33, 34, 35]
theorem ls8 : Tryd.f8.body.map (strip Tryd.prog impCodC) = some lc8 := by kernel_rfl
theorem lcall8 : LC 8 36 lc8 [.tmp 6] := LC.of Tryd.func8 (by kernel_rfl) ls8 (by kernel_rfl) (by kernel_rfl)
/-- escutcheon/page.Of -/
def lc10 : LCode := .seq (.reg []
  [o1 2 (.alloc 26)]) (.seq (.reg []
  [o1 5 (.build 26 #[(0, .const (.int .i64 6))]),
  o1 3 (.alloc 26),
  o3 (.store 26 (.tmp 3) (.tmp 5))]) (.seq (.seq (.reg []
  [o1 6 (.move (.tmp 0)),
  o1 7 (.call ⟨.value (.func 23), #[.tmp 6, .const (.int .i64 2)], #[23, 3]⟩)]) (.block 0 (.bad))) (.seq (.reg []
  [o1 29 (.load 26 (.tmp 3)),
  o3 (.store 26 (.tmp 2) (.tmp 29))]) (.ret))))
theorem ls10 : Tryd.f10.body.map (strip Tryd.prog impCodC) = some lc10 := by kernel_rfl
theorem lcall10 : LC 10 30 lc10 [.cell 2 26] := LC.of Tryd.func10 (by kernel_rfl) ls10 (by kernel_rfl) (by kernel_rfl)
/-- escutcheon/page.Good -/
def lc11 : LCode := .seq (.reg []
  [o1 1 (.box 26 (.tmp 0)),
  o1 2 (.assign (.const (.int .i64 0)))]) (.seq (.reg []
  [o1 3 (.load 26 (.tmp 1)),
  o1 4 (.call ⟨.value (.func 24), #[.tmp 3, .const (.int .i64 1)], #[26, 3]⟩),
  o1 2 (.assign (.tmp 4))]) (.ret))
theorem ls11 : Tryd.f11.body.map (strip Tryd.prog impCodC) = some lc11 := by kernel_rfl
theorem lcall11 : LC 11 5 lc11 [.tmp 2] := LC.of Tryd.func11 (by kernel_rfl) ls11 (by kernel_rfl) (by kernel_rfl)
/-- escutcheon/claim.Make -/
def lc12 : LCode := .seq (.reg []
  [o1 10 (.alloc 26),
  o1 11 (.assign (.const (.int .i64 0)))]) (.seq (.reg []
  [o1 18 (.move (.tmp 2)),
  o1 19 (.call ⟨.value (.func 9), #[.tmp 18], #[3]⟩),
  o1 17 (.move (.tmp 19)),
  o1 20 (.extract (.tmp 17) 0),
  o1 21 (.extract (.tmp 17) 1),
  o1 12 (.assign (.tmp 20)),
  o1 13 (.assign (.tmp 21))]) (.seq (.seq (.reg []
  [o1 22 (.move (.tmp 13)),
  o1 23 (.binOp .neq 31 (.tmp 22) (.const (.int .i64 0)) 31)]) (.cond (.tmp 23) (.seq (.reg []
  [o1 24 (.build 26 #[]),
  o1 25 (.move (.tmp 13)),
  o3 (.store 26 (.tmp 10) (.tmp 24)),
  o1 11 (.assign (.tmp 25))]) (.ret)) (.skip))) (.seq (.reg []
  [o1 27 (.move (.tmp 3)),
  o1 28 (.call ⟨.value (.func 9), #[.tmp 27], #[3]⟩),
  o1 26 (.move (.tmp 28)),
  o1 29 (.extract (.tmp 26) 0),
  o1 30 (.extract (.tmp 26) 1),
  o1 14 (.assign (.tmp 29)),
  o1 13 (.assign (.tmp 30))]) (.seq (.seq (.reg []
  [o1 31 (.move (.tmp 13)),
  o1 32 (.binOp .neq 31 (.tmp 31) (.const (.int .i64 0)) 31)]) (.cond (.tmp 32) (.seq (.reg []
  [o1 33 (.build 26 #[]),
  o1 34 (.move (.tmp 13)),
  o3 (.store 26 (.tmp 10) (.tmp 33)),
  o1 11 (.assign (.tmp 34))]) (.ret)) (.skip))) (.seq (.reg []
  [o1 35 (.move (.tmp 0)),
  o1 36 (.move (.tmp 1)),
  o1 37 (.move (.tmp 12)),
  o1 38 (.move (.tmp 14)),
  o1 39 (.buildSlice 23 8 #[(0, .const (.string { data := #[105, 115, 115] })), (1, .tmp 35), (2, .const (.string { data := #[97, 117, 100] })), (3, .tmp 36), (4, .const (.string { data := #[110, 98, 102] })), (5, .tmp 37), (6, .const (.string { data := #[101, 120, 112] })), (7, .tmp 38)]),
  o1 40 (.move (.tmp 4)),
  o1 41 (.buildSlice 88 2 #[(0, .tmp 39), (1, .tmp 40)]),
  o1 42 (.call ⟨.value (.func 25), #[.tmp 41], #[88]⟩),
  o1 43 (.call ⟨.value (.func 10), #[.tmp 42], #[23]⟩),
  o1 15 (.alloc 26),
  o3 (.store 26 (.tmp 15) (.tmp 43))]) (.seq (.seq (.reg []
  [o1 44 (.load 26 (.tmp 15)),
  o1 45 (.call ⟨.value (.func 11), #[.tmp 44], #[26]⟩),
  o1 16 (.assign (.tmp 45))]) (.seq (.reg []
  [o1 46 (.move (.tmp 16)),
  o1 47 (.binOp .neq 31 (.tmp 46) (.const (.int .i64 0)) 31)]) (.cond (.tmp 47) (.seq (.reg []
  [o1 48 (.build 26 #[]),
  o1 49 (.move (.tmp 16)),
  o3 (.store 26 (.tmp 10) (.tmp 48)),
  o1 11 (.assign (.tmp 49))]) (.ret)) (.skip)))) (.seq (.reg []
  [o1 50 (.load 26 (.tmp 15)),
  o3 (.store 26 (.tmp 10) (.tmp 50)),
  o1 11 (.assign (.const (.int .i64 0)))]) (.ret))))))))
theorem ls12 : Tryd.f12.body.map (strip Tryd.prog impCodC) = some lc12 := by kernel_rfl
theorem lcall12 : LC 12 51 lc12 [.cell 10 26, .tmp 11] := LC.of Tryd.func12 (by kernel_rfl) ls12 (by kernel_rfl) (by kernel_rfl)
/-- escutcheon/claim.Usual -/
def lc16 : LCode := .seq (.reg []
  [o1 4 (.assign (.const (.slice none 0 0)))]) (.seq (.reg []
  [o1 5 (.move (.tmp 0)),
  o1 6 (.build 40 #[(0, .const (.int .i64 1)), (1, .const (.string { data := #[105, 115, 115] })), (2, .tmp 5)]),
  o1 7 (.move (.tmp 1)),
  o1 8 (.build 40 #[(0, .const (.int .i64 1)), (1, .const (.string { data := #[97, 117, 100] })), (2, .tmp 7)]),
  o1 9 (.build 40 #[(0, .const (.int .i64 3)), (1, .const (.string { data := #[110, 98, 102] })), (2, .const (.string { data := #[] }))]),
  o1 10 (.build 40 #[(0, .const (.int .i64 4)), (1, .const (.string { data := #[101, 120, 112] })), (2, .const (.string { data := #[] }))]),
  o1 11 (.buildSlice 27 4 #[(0, .tmp 6), (1, .tmp 8), (2, .tmp 9), (3, .tmp 10)]),
  o1 4 (.assign (.tmp 11))]) (.ret))
theorem ls16 : Tryd.f16.body.map (strip Tryd.prog impCodC) = some lc16 := by kernel_rfl
theorem lcall16 : LC 16 12 lc16 [.tmp 4] := LC.of Tryd.func16 (by kernel_rfl) ls16 (by kernel_rfl) (by kernel_rfl)
/-- (escutcheon/claim.claims).check -/
def lc17 : LCode := .seq (.reg []
  [o1 2 (.box 52 (.tmp 0)),
  o1 3 (.box 40 (.tmp 1)),
  o1 4 (.assign (.const (.int .i64 0)))]) (.seq (.seq (.reg []
  [o1 7 (.fieldAddr 40 (.tmp 3) 0),
  o1 8 (.load 38 (.tmp 7)),
  o1 9 (.binOp .lss 38 (.tmp 8) (.const (.int .i64 1)) 38),
  o1 10 (.move (.tmp 9)),
  o2 11 (.fieldAddr 40 (.tmp 3) 0) 10 false,
  o2 12 (.load 38 (.tmp 11)) 10 false,
  o2 13 (.binOp .gtr 38 (.tmp 12) (.const (.int .i64 4)) 38) 10 false,
  o1 14 (.pick (.tmp 10) (.const (.bool true)) (.tmp 13))]) (.cond (.tmp 14) (.seq (.reg []
  [o1 4 (.assign (.const (.int .i64 2)))]) (.ret)) (.skip))) (.seq (.reg []
  [o1 16 (.load 52 (.tmp 2)),
  o1 17 (.fieldAddr 40 (.tmp 3) 1),
  o1 18 (.load 9 (.tmp 17)),
  o1 19 (.call ⟨.value (.func 29), #[.tmp 16, .tmp 18], #[52, 9]⟩),
  o1 15 (.move (.tmp 19)),
  o1 20 (.extract (.tmp 15) 0),
  o1 21 (.extract (.tmp 15) 1),
  o1 5 (.assign (.tmp 20)),
  o1 6 (.assign (.tmp 21))]) (.seq (.seq (.reg []
  [o1 22 (.move (.tmp 6)),
  o1 23 (.unOp .not 4 (.tmp 22))]) (.cond (.tmp 23) (.seq (.reg []
  [o1 4 (.assign (.const (.int .i64 15)))]) (.ret)) (.skip))) (.seq (.reg []
  [o1 24 (.load 40 (.tmp 3)),
  o1 25 (.move (.tmp 5)),
  o1 26 (.fieldAddr 52 (.tmp 2) 1),
  o1 27 (.load 3 (.tmp 26)),
  o1 28 (.call ⟨.value (.func 30), #[.tmp 24, .tmp 25, .tmp 27], #[40, 9, 3]⟩),
  o1 4 (.assign (.tmp 28))]) (.ret)))))
theorem ls17 : Tryd.f17.body.map (strip Tryd.prog impCodC) = some lc17 := by kernel_rfl
theorem lcall17 : LC 17 29 lc17 [.tmp 4] := LC.of Tryd.func17 (by kernel_rfl) ls17 (by kernel_rfl) (by kernel_rfl)
/-- (escutcheon/page.Value).good -/
def lc24 : LCode := .seq (.reg []
  [o1 2 (.box 26 (.tmp 0)),
  o1 4 (.assign (.const (.int .i64 0)))]) (.seq (.block 0 (.seq (.reg []
  [o1 9 (.move (.tmp 1)),
  o1 10 (.binOp .gtr 3 (.tmp 9) (.const (.int .i64 8)) 3),
  o1 8 (.assign (.tmp 10))]) (.cond (.tmp 8) (.seq (.reg []
  [o1 4 (.assign (.const (.int .i64 9)))]) (.ret)) (.seq (.reg []
  [o1 12 (.load 26 (.tmp 2)),
  o1 13 (.call ⟨.value (.func 39), #[.tmp 12], #[26]⟩),
  o1 14 (.unOp .not 4 (.tmp 13)),
  o1 11 (.assign (.tmp 14))]) (.cond (.tmp 11) (.seq (.reg []
  [o1 4 (.assign (.const (.int .i64 2)))]) (.ret)) (.seq (.reg []
  [o1 16 (.fieldAddr 26 (.tmp 2) 3),
  o1 17 (.load 24 (.tmp 16)),
  o1 18 (.call ⟨.builtin .len, #[.tmp 17], #[24]⟩),
  o1 19 (.binOp .gtr 3 (.tmp 18) (.const (.int .i64 64)) 3),
  o1 15 (.assign (.tmp 19))]) (.cond (.tmp 15) (.seq (.reg []
  [o1 4 (.assign (.const (.int .i64 11)))]) (.ret)) (.seq (.reg []
  [o1 21 (.fieldAddr 26 (.tmp 2) 2),
  o1 22 (.load 23 (.tmp 21)),
  o1 23 (.call ⟨.value (.func 40), #[.tmp 22], #[23]⟩),
  o1 20 (.assign (.tmp 23))]) (.cond (.tmp 20) (.seq (.reg []
  [o1 4 (.assign (.const (.int .i64 10)))]) (.ret)) (.skip)))))))))) (.seq (.seq (.reg []
  [o1 24 (.fieldAddr 26 (.tmp 2) 3),
  o1 25 (.load 24 (.tmp 24)),
  o1 26 (.call ⟨.builtin .len, #[.tmp 25], #[24]⟩),
  o1 27 (.move (.const (.int .i64 0)))]) (.block 1 (.loop (.seq (.reg []
  [o1 28 (.binOp .lss 3 (.tmp 27) (.tmp 26) 3)]) (.seq (.cond (.tmp 28) (.skip) (.exit 1)) (.seq (.block 2 (.seq (.reg []
  [o1 29 (.indexAddr 24 (.tmp 25) (.tmp 27)),
  o1 30 (.load 26 (.tmp 29)),
  o1 6 (.alloc 26),
  o3 (.store 26 (.tmp 6) (.tmp 30))]) (.seq (.reg []
  [o1 31 (.load 26 (.tmp 6)),
  o1 32 (.move (.tmp 1)),
  o1 33 (.binOp .add 3 (.tmp 32) (.const (.int .i64 1)) 3),
  o1 34 (.call ⟨.value (.func 24), #[.tmp 31, .tmp 33], #[26, 3]⟩),
  o1 7 (.assign (.tmp 34))]) (.seq (.reg []
  [o1 35 (.move (.tmp 7)),
  o1 36 (.binOp .neq 31 (.tmp 35) (.const (.int .i64 0)) 31)]) (.cond (.tmp 36) (.seq (.reg []
  [o1 37 (.move (.tmp 7)),
  o1 4 (.assign (.tmp 37))]) (.ret)) (.skip)))))) (.reg []
  [o1 38 (.binOp .add 3 (.tmp 27) (.const (.int .i64 1)) 3),
  o1 27 (.move (.tmp 38))]))))))) (.seq (.reg []
  [o1 4 (.assign (.const (.int .i64 0)))]) (.ret))))
def ms24_0 : List Nat := [0, 2, 3, 4, 5, 6, 7, 8, 9, 10, 11, 12, 13, 14, 15, 16, 17, 18, 19, 20, 21, 22, 23, 24, 27, 28, 29, 30, 31, 32, 33, 34, 35, 36, 37, 38]
theorem ls24 : Tryd.f24.body.map (strip Tryd.prog impCodC) = some lc24 := by kernel_rfl
theorem lcall24 : LC 24 39 lc24 [.tmp 4] := LC.of Tryd.func24 (by kernel_rfl) ls24 (by kernel_rfl) (by kernel_rfl)
/-- (escutcheon/claim.claims).text -/
def lc29 : LCode := .seq (.reg []
  [o1 2 (.box 52 (.tmp 0)),
  o1 4 (.assign (.const (.string { data := #[] }))),
  o1 5 (.assign (.const (.bool false)))]) (.seq (.reg []
  [o1 9 (.fieldAddr 52 (.tmp 2) 0),
  o1 10 (.load 26 (.tmp 9)),
  o1 11 (.move (.tmp 1)),
  o1 12 (.call ⟨.value (.func 44), #[.tmp 10, .tmp 11], #[26, 9]⟩),
  o1 8 (.move (.tmp 12)),
  o1 13 (.extract (.tmp 8) 0),
  o1 14 (.extract (.tmp 8) 1),
  o1 6 (.alloc 26),
  o3 (.store 26 (.tmp 6) (.tmp 13)),
  o1 7 (.assign (.tmp 14))]) (.seq (.reg [o1 15 (.fieldAddr 26 (.tmp 6) 1),
  o1 16 (.load 9 (.tmp 15)),
  o1 17 (.move (.tmp 7)),
  o1 18 (.move (.tmp 17)),
  o2 19 (.fieldAddr 26 (.tmp 6) 0) 18 true,
  o2 20 (.load 22 (.tmp 19)) 18 true,
  o2 21 (.binOp .eql 22 (.tmp 20) (.const (.int .i64 4)) 22) 18 true,
  o1 22 (.pick (.tmp 18) (.tmp 21) (.const (.bool false))),
  o1 4 (.assign (.tmp 16)),
  o1 5 (.assign (.tmp 22))]
  []) (.ret)))
theorem ls29 : Tryd.f29.body.map (strip Tryd.prog impCodC) = some lc29 := by kernel_rfl
theorem lcall29 : LC 29 23 lc29 [.tmp 4, .tmp 5] := LC.of Tryd.func29 (by kernel_rfl) ls29 (by kernel_rfl) (by kernel_rfl)
/-- (escutcheon/claim.Rule).wrong -/
def lc30 : LCode := .seq (.reg []
  [o1 3 (.box 40 (.tmp 0)),
  o1 6 (.assign (.const (.int .i64 0)))]) (.seq (.seq (.reg []
  [o1 9 (.fieldAddr 40 (.tmp 3) 0),
  o1 10 (.load 38 (.tmp 9)),
  o1 11 (.binOp .eql 38 (.tmp 10) (.const (.int .i64 1)) 38),
  o1 12 (.move (.tmp 11)),
  o2 13 (.move (.tmp 1)) 12 true,
  o2 14 (.fieldAddr 40 (.tmp 3) 2) 12 true,
  o2 15 (.load 9 (.tmp 14)) 12 true,
  o2 16 (.binOp .neq 9 (.tmp 13) (.tmp 15) 9) 12 true,
  o1 17 (.pick (.tmp 12) (.tmp 16) (.const (.bool false)))]) (.cond (.tmp 17) (.seq (.reg []
  [o1 6 (.assign (.const (.int .i64 15)))]) (.ret)) (.skip))) (.seq (.seq (.reg []
  [o1 18 (.fieldAddr 40 (.tmp 3) 0),
  o1 19 (.load 38 (.tmp 18)),
  o1 20 (.binOp .eql 38 (.tmp 19) (.const (.int .i64 1)) 38),
  o1 21 (.move (.tmp 20)),
  o2 22 (.fieldAddr 40 (.tmp 3) 0) 21 false,
  o2 23 (.load 38 (.tmp 22)) 21 false,
  o2 24 (.binOp .eql 38 (.tmp 23) (.const (.int .i64 2)) 38) 21 false,
  o1 25 (.pick (.tmp 21) (.const (.bool true)) (.tmp 24))]) (.cond (.tmp 25) (.seq (.reg []
  [o1 6 (.assign (.const (.int .i64 0)))]) (.ret)) (.skip))) (.seq (.reg []
  [o1 27 (.move (.tmp 1)),
  o1 28 (.call ⟨.value (.func 45), #[.tmp 27], #[9]⟩),
  o1 26 (.move (.tmp 28)),
  o1 29 (.extract (.tmp 26) 0),
  o1 30 (.extract (.tmp 26) 1),
  o1 7 (.assign (.tmp 29)),
  o1 8 (.assign (.tmp 30))]) (.seq (.block 0 (.seq (.reg []
  [o1 32 (.move (.tmp 8)),
  o1 33 (.binOp .neq 31 (.tmp 32) (.const (.int .i64 0)) 31),
  o1 31 (.assign (.tmp 33))]) (.cond (.tmp 31) (.seq (.reg []
  [o1 6 (.assign (.const (.int .i64 12)))]) (.ret)) (.seq (.reg []
  [o1 35 (.fieldAddr 40 (.tmp 3) 0),
  o1 36 (.load 38 (.tmp 35)),
  o1 37 (.binOp .eql 38 (.tmp 36) (.const (.int .i64 3)) 38),
  o1 38 (.move (.tmp 37)),
  o2 39 (.move (.tmp 7)) 38 true,
  o2 40 (.move (.tmp 2)) 38 true,
  o2 41 (.binOp .gtr 3 (.tmp 39) (.tmp 40) 3) 38 true,
  o1 42 (.pick (.tmp 38) (.tmp 41) (.const (.bool false))),
  o1 34 (.assign (.tmp 42))]) (.cond (.tmp 34) (.seq (.reg []
  [o1 6 (.assign (.const (.int .i64 13)))]) (.ret)) (.seq (.reg []
  [o1 44 (.fieldAddr 40 (.tmp 3) 0),
  o1 45 (.load 38 (.tmp 44)),
  o1 46 (.binOp .eql 38 (.tmp 45) (.const (.int .i64 4)) 38),
  o1 47 (.move (.tmp 46)),
  o2 48 (.move (.tmp 7)) 47 true,
  o2 49 (.move (.tmp 2)) 47 true,
  o2 50 (.binOp .leq 3 (.tmp 48) (.tmp 49) 3) 47 true,
  o1 51 (.pick (.tmp 47) (.tmp 50) (.const (.bool false))),
  o1 43 (.assign (.tmp 51))]) (.cond (.tmp 43) (.seq (.reg []
  [o1 6 (.assign (.const (.int .i64 14)))]) (.ret)) (.skip)))))))) (.seq (.reg []
  [o1 6 (.assign (.const (.int .i64 0)))]) (.ret))))))
theorem ls30 : Tryd.f30.body.map (strip Tryd.prog impCodC) = some lc30 := by kernel_rfl
theorem lcall30 : LC 30 52 lc30 [.tmp 6] := LC.of Tryd.func30 (by kernel_rfl) ls30 (by kernel_rfl) (by kernel_rfl)
/-- (escutcheon/page.Value).form -/
def lc39 : LCode := .seq (.reg []
  [o1 1 (.box 26 (.tmp 0)),
  o1 2 (.assign (.const (.bool false)))]) (.seq (.seq (.reg []
  [o1 3 (.fieldAddr 26 (.tmp 1) 0),
  o1 4 (.load 22 (.tmp 3))]) (.block 0 (.seq (.seq (.reg []
  [o1 6 (.binOp .eql 22 (.tmp 4) (.const (.int .i64 0)) 22),
  o1 5 (.assign (.tmp 6))]) (.cond (.tmp 5) (.skip) (.seq (.reg []
  [o1 7 (.binOp .eql 22 (.tmp 4) (.const (.int .i64 1)) 22),
  o1 5 (.assign (.tmp 7))]) (.cond (.tmp 5) (.skip) (.reg []
  [o1 8 (.binOp .eql 22 (.tmp 4) (.const (.int .i64 2)) 22),
  o1 5 (.assign (.tmp 8))]))))) (.cond (.tmp 5) (.seq (.reg []
  [o1 9 (.fieldAddr 26 (.tmp 1) 1),
  o1 10 (.load 9 (.tmp 9)),
  o1 11 (.binOp .eql 9 (.tmp 10) (.const (.string { data := #[] })) 9),
  o1 12 (.move (.tmp 11)),
  o2 13 (.fieldAddr 26 (.tmp 1) 2) 12 true,
  o2 14 (.load 23 (.tmp 13)) 12 true,
  o2 15 (.call ⟨.builtin .len, #[.tmp 14], #[23]⟩) 12 true,
  o2 16 (.binOp .eql 3 (.tmp 15) (.const (.int .i64 0)) 3) 12 true,
  o1 17 (.pick (.tmp 12) (.tmp 16) (.const (.bool false))),
  o1 18 (.move (.tmp 17)),
  o2 19 (.fieldAddr 26 (.tmp 1) 3) 18 true,
  o2 20 (.load 24 (.tmp 19)) 18 true,
  o2 21 (.call ⟨.builtin .len, #[.tmp 20], #[24]⟩) 18 true,
  o2 22 (.binOp .eql 3 (.tmp 21) (.const (.int .i64 0)) 3) 18 true,
  o1 23 (.pick (.tmp 18) (.tmp 22) (.const (.bool false))),
  o1 2 (.assign (.tmp 23))]) (.ret)) (.seq (.reg []
  [o1 25 (.binOp .eql 22 (.tmp 4) (.const (.int .i64 3)) 22),
  o1 24 (.assign (.tmp 25))]) (.cond (.tmp 24) (.seq (.reg [o1 26 (.fieldAddr 26 (.tmp 1) 2),
  o1 27 (.load 23 (.tmp 26)),
  o1 28 (.call ⟨.builtin .len, #[.tmp 27], #[23]⟩),
  o1 29 (.binOp .eql 3 (.tmp 28) (.const (.int .i64 0)) 3),
  o1 30 (.move (.tmp 29)),
  o2 31 (.fieldAddr 26 (.tmp 1) 3) 30 true,
  o2 32 (.load 24 (.tmp 31)) 30 true,
  o2 33 (.call ⟨.builtin .len, #[.tmp 32], #[24]⟩) 30 true,
  o2 34 (.binOp .eql 3 (.tmp 33) (.const (.int .i64 0)) 3) 30 true,
  o1 35 (.pick (.tmp 30) (.tmp 34) (.const (.bool false))),
  o1 36 (.move (.tmp 35)),
  o2 37 (.fieldAddr 26 (.tmp 1) 1) 36 true,
  o2 38 (.load 9 (.tmp 37)) 36 true,
  o2 39 (.binOp .neq 9 (.tmp 38) (.const (.string { data := #[] })) 9) 36 true,
  o1 40 (.pick (.tmp 36) (.tmp 39) (.const (.bool false))),
  o1 41 (.move (.tmp 40)),
  o2 42 (.fieldAddr 26 (.tmp 1) 1) 41 true,
  o2 43 (.load 9 (.tmp 42)) 41 true,
  o2 44 (.call ⟨.builtin .len, #[.tmp 43], #[9]⟩) 41 true,
  o2 45 (.binOp .leq 3 (.tmp 44) (.const (.int .i64 40)) 3) 41 true,
  o1 46 (.pick (.tmp 41) (.tmp 45) (.const (.bool false))),
  o1 47 (.move (.tmp 46)),
  o2 48 (.fieldAddr 26 (.tmp 1) 1) 47 true,
  o2 49 (.load 9 (.tmp 48)) 47 true,
  o2 50 (.call ⟨.value (.func 53), #[.tmp 49], #[9]⟩) 47 true,
  o2 51 (.fieldAddr 26 (.tmp 1) 1) 47 true,
  o2 52 (.load 9 (.tmp 51)) 47 true,
  o2 53 (.call ⟨.builtin .len, #[.tmp 52], #[9]⟩) 47 true,
  o2 54 (.binOp .eql 3 (.tmp 50) (.tmp 53) 3) 47 true,
  o1 55 (.pick (.tmp 47) (.tmp 54) (.const (.bool false))),
  o1 2 (.assign (.tmp 55))]
  []) (.ret)) (.seq (.reg []
  [o1 57 (.binOp .eql 22 (.tmp 4) (.const (.int .i64 4)) 22),
  o1 56 (.assign (.tmp 57))]) (.cond (.tmp 56) (.seq (.reg []
  [o1 58 (.fieldAddr 26 (.tmp 1) 2),
  o1 59 (.load 23 (.tmp 58)),
  o1 60 (.call ⟨.builtin .len, #[.tmp 59], #[23]⟩),
  o1 61 (.binOp .eql 3 (.tmp 60) (.const (.int .i64 0)) 3),
  o1 62 (.move (.tmp 61)),
  o2 63 (.fieldAddr 26 (.tmp 1) 3) 62 true,
  o2 64 (.load 24 (.tmp 63)) 62 true,
  o2 65 (.call ⟨.builtin .len, #[.tmp 64], #[24]⟩) 62 true,
  o2 66 (.binOp .eql 3 (.tmp 65) (.const (.int .i64 0)) 3) 62 true,
  o1 67 (.pick (.tmp 62) (.tmp 66) (.const (.bool false))),
  o1 68 (.move (.tmp 67)),
  o2 69 (.fieldAddr 26 (.tmp 1) 1) 68 true,
  o2 70 (.load 9 (.tmp 69)) 68 true,
  o2 71 (.call ⟨.value (.func 54), #[.tmp 70], #[9]⟩) 68 true,
  o1 72 (.pick (.tmp 68) (.tmp 71) (.const (.bool false))),
  o1 2 (.assign (.tmp 72))]) (.ret)) (.seq (.reg []
  [o1 74 (.binOp .eql 22 (.tmp 4) (.const (.int .i64 5)) 22),
  o1 73 (.assign (.tmp 74))]) (.cond (.tmp 73) (.seq (.reg []
  [o1 75 (.fieldAddr 26 (.tmp 1) 1),
  o1 76 (.load 9 (.tmp 75)),
  o1 77 (.binOp .eql 9 (.tmp 76) (.const (.string { data := #[] })) 9),
  o1 78 (.move (.tmp 77)),
  o2 79 (.fieldAddr 26 (.tmp 1) 2) 78 true,
  o2 80 (.load 23 (.tmp 79)) 78 true,
  o2 81 (.call ⟨.builtin .len, #[.tmp 80], #[23]⟩) 78 true,
  o2 82 (.binOp .eql 3 (.tmp 81) (.const (.int .i64 0)) 3) 78 true,
  o1 83 (.pick (.tmp 78) (.tmp 82) (.const (.bool false))),
  o1 2 (.assign (.tmp 83))]) (.ret)) (.seq (.reg []
  [o1 85 (.binOp .eql 22 (.tmp 4) (.const (.int .i64 6)) 22),
  o1 84 (.assign (.tmp 85))]) (.cond (.tmp 84) (.seq (.reg []
  [o1 86 (.fieldAddr 26 (.tmp 1) 1),
  o1 87 (.load 9 (.tmp 86)),
  o1 88 (.binOp .eql 9 (.tmp 87) (.const (.string { data := #[] })) 9),
  o1 89 (.move (.tmp 88)),
  o2 90 (.fieldAddr 26 (.tmp 1) 2) 89 true,
  o2 91 (.load 23 (.tmp 90)) 89 true,
  o2 92 (.call ⟨.builtin .len, #[.tmp 91], #[23]⟩) 89 true,
  o2 93 (.fieldAddr 26 (.tmp 1) 3) 89 true,
  o2 94 (.load 24 (.tmp 93)) 89 true,
  o2 95 (.call ⟨.builtin .len, #[.tmp 94], #[24]⟩) 89 true,
  o2 96 (.binOp .eql 3 (.tmp 92) (.tmp 95) 3) 89 true,
  o1 97 (.pick (.tmp 89) (.tmp 96) (.const (.bool false))),
  o1 98 (.move (.tmp 97)),
  o2 99 (.fieldAddr 26 (.tmp 1) 2) 98 true,
  o2 100 (.load 23 (.tmp 99)) 98 true,
  o2 101 (.call ⟨.value (.func 55), #[.tmp 100, .func 56], #[23, 103]⟩) 98 true,
  o2 102 (.unOp .not 4 (.tmp 101)) 98 true,
  o1 103 (.pick (.tmp 98) (.tmp 102) (.const (.bool false))),
  o1 2 (.assign (.tmp 103))]) (.ret)) (.skip))))))))))))) (.seq (.reg []
  [o1 2 (.assign (.const (.bool false)))]) (.ret)))
theorem ls39 : Tryd.f39.body.map (strip Tryd.prog impCodC) = some lc39 := by kernel_rfl
theorem lcall39 : LC 39 104 lc39 [.tmp 2] := LC.of Tryd.func39 (by kernel_rfl) ls39 (by kernel_rfl) (by kernel_rfl)
/-- escutcheon/page.twice -/
def lc40 : LCode := .seq (.reg []
  [o1 2 (.assign (.const (.bool false)))]) (.seq (.seq (.reg []
  [o1 5 (.move (.tmp 0)),
  o1 6 (.call ⟨.builtin .len, #[.tmp 5], #[23]⟩),
  o1 7 (.move (.const (.int .i64 0)))]) (.block 0 (.loop (.seq (.reg []
  [o1 8 (.binOp .lss 3 (.tmp 7) (.tmp 6) 3)]) (.seq (.cond (.tmp 8) (.skip) (.exit 0)) (.seq (.block 1 (.seq (.reg []
  [o1 9 (.move (.tmp 7)),
  o1 10 (.indexAddr 23 (.tmp 5) (.tmp 7)),
  o1 11 (.load 9 (.tmp 10)),
  o1 3 (.assign (.tmp 9)),
  o1 4 (.assign (.tmp 11))]) (.seq (.reg []
  [o1 12 (.move (.tmp 0)),
  o1 13 (.move (.tmp 3)),
  o1 14 (.slice 23 (.tmp 12) none (some (.tmp 13)) none),
  o1 15 (.move (.tmp 4)),
  o1 16 (.call ⟨.value (.func 57), #[.tmp 14, .tmp 15], #[23, 9]⟩)]) (.cond (.tmp 16) (.seq (.reg []
  [o1 2 (.assign (.const (.bool true)))]) (.ret)) (.skip))))) (.reg []
  [o1 17 (.binOp .add 3 (.tmp 7) (.const (.int .i64 1)) 3),
  o1 7 (.move (.tmp 17))]))))))) (.seq (.reg []
  [o1 2 (.assign (.const (.bool false)))]) (.ret)))
def ms40_0 : List Nat := [1, 2, 3, 4, 7, 8, 9, 10, 11, 12, 13, 14, 15, 16, 17]
theorem ls40 : Tryd.f40.body.map (strip Tryd.prog impCodC) = some lc40 := by kernel_rfl
theorem lcall40 : LC 40 18 lc40 [.tmp 2] := LC.of Tryd.func40 (by kernel_rfl) ls40 (by kernel_rfl) (by kernel_rfl)
/-- slices.Grow[[]string,string] -/
def lc41 : LCode := .seq (.reg []
  [o1 4 (.assign (.const (.slice none 0 0)))]) (.seq (.seq (.reg []
  [o1 5 (.move (.tmp 1)),
  o1 6 (.binOp .lss 3 (.tmp 5) (.const (.int .i64 0)) 3)]) (.cond (.tmp 6) (.reg []
  [o1 7 (.makeInterface 9 (.const (.string { data := #[99, 97, 110, 110, 111, 116, 32, 98, 101, 32, 110, 101, 103, 97, 116, 105, 118, 101] }))),
  o3 (.panic (.tmp 7))]) (.skip))) (.seq (.seq (.reg []
  [o1 8 (.move (.tmp 1)),
  o1 9 (.move (.tmp 0)),
  o1 10 (.call ⟨.builtin .cap, #[.tmp 9], #[23]⟩),
  o1 11 (.move (.tmp 0)),
  o1 12 (.call ⟨.builtin .len, #[.tmp 11], #[23]⟩),
  o1 13 (.binOp .sub 3 (.tmp 10) (.tmp 12) 3),
  o1 14 (.binOp .sub 3 (.tmp 8) (.tmp 13) 3),
  o1 1 (.assign (.tmp 14))]) (.seq (.reg []
  [o1 15 (.move (.tmp 1)),
  o1 16 (.binOp .gtr 3 (.tmp 15) (.const (.int .i64 0)) 3)]) (.cond (.tmp 16) (.reg []
  [o1 17 (.move (.tmp 0)),
  o1 18 (.move (.tmp 0)),
  o1 19 (.call ⟨.builtin .cap, #[.tmp 18], #[23]⟩),
  o1 20 (.slice 23 (.tmp 17) none (some (.tmp 19)) none),
  o1 21 (.move (.tmp 1)),
  o1 22 (.call ⟨.builtin .append, #[.tmp 20, .tmp 21], #[23, 3]⟩),
  o1 23 (.move (.tmp 0)),
  o1 24 (.call ⟨.builtin .len, #[.tmp 23], #[23]⟩),
  o1 25 (.slice 23 (.tmp 22) none (some (.tmp 24)) none),
  o1 0 (.assign (.tmp 25))]) (.skip)))) (.seq (.reg []
  [o1 26 (.move (.tmp 0)),
  o1 4 (.assign (.tmp 26))]) (.ret))))
theorem ls41 : Tryd.f41.body.map (strip Tryd.prog impCodC) = some lc41 := by kernel_rfl
theorem lcall41 : LC 41 27 lc41 [.tmp 4] := LC.of Tryd.func41 (by kernel_rfl) ls41 (by kernel_rfl) (by kernel_rfl)
/-- (escutcheon/page.Value).Get -/
def lc44 : LCode := .seq (.reg []
  [o1 2 (.box 26 (.tmp 0)),
  o1 4 (.alloc 26),
  o1 5 (.assign (.const (.bool false)))]) (.seq (.reg []
  [o1 7 (.fieldAddr 26 (.tmp 2) 2),
  o1 8 (.load 23 (.tmp 7)),
  o1 9 (.move (.tmp 1)),
  o1 10 (.call ⟨.value (.func 58), #[.tmp 8, .tmp 9], #[23, 9]⟩),
  o1 6 (.assign (.tmp 10))]) (.seq (.seq (.reg []
  [o1 11 (.fieldAddr 26 (.tmp 2) 0),
  o1 12 (.load 22 (.tmp 11)),
  o1 13 (.binOp .neq 22 (.tmp 12) (.const (.int .i64 6)) 22),
  o1 14 (.move (.tmp 13)),
  o2 15 (.move (.tmp 6)) 14 false,
  o2 16 (.binOp .lss 3 (.tmp 15) (.const (.int .i64 0)) 3) 14 false,
  o1 17 (.pick (.tmp 14) (.const (.bool true)) (.tmp 16)),
  o1 18 (.move (.tmp 17)),
  o2 19 (.move (.tmp 6)) 18 false,
  o2 20 (.fieldAddr 26 (.tmp 2) 3) 18 false,
  o2 21 (.load 24 (.tmp 20)) 18 false,
  o2 22 (.call ⟨.builtin .len, #[.tmp 21], #[24]⟩) 18 false,
  o2 23 (.binOp .geq 3 (.tmp 19) (.tmp 22) 3) 18 false,
  o1 24 (.pick (.tmp 18) (.const (.bool true)) (.tmp 23))]) (.cond (.tmp 24) (.seq (.reg []
  [o1 25 (.build 26 #[]),
  o3 (.store 26 (.tmp 4) (.tmp 25)),
  o1 5 (.assign (.const (.bool false)))]) (.ret)) (.skip))) (.seq (.reg []
  [o1 26 (.fieldAddr 26 (.tmp 2) 3),
  o1 27 (.load 24 (.tmp 26)),
  o1 28 (.move (.tmp 6)),
  o1 29 (.indexAddr 24 (.tmp 27) (.tmp 28)),
  o1 30 (.load 26 (.tmp 29)),
  o3 (.store 26 (.tmp 4) (.tmp 30)),
  o1 5 (.assign (.const (.bool true)))]) (.ret))))
theorem ls44 : Tryd.f44.body.map (strip Tryd.prog impCodC) = some lc44 := by kernel_rfl
theorem lcall44 : LC 44 31 lc44 [.cell 4 26, .tmp 5] := LC.of Tryd.func44 (by kernel_rfl) ls44 (by kernel_rfl) (by kernel_rfl)
/-- unicode/utf8.ValidString -/
def lc54 : LCode := .seq (.reg []
  [o1 2 (.assign (.const (.bool false)))]) (.seq (.block 0 (.loop (.seq (.seq (.reg []
  [o1 7 (.move (.tmp 0)),
  o1 8 (.call ⟨.builtin .len, #[.tmp 7], #[9]⟩),
  o1 9 (.binOp .gtr 3 (.tmp 8) (.const (.int .i64 0)) 3)]) (.cond (.tmp 9) (.skip) (.exit 0))) (.block 1 (.seq (.reg []
  [o1 10 (.move (.tmp 0)),
  o1 11 (.index 9 (.tmp 10) (.const (.int .i64 0))),
  o1 3 (.assign (.tmp 11))]) (.seq (.seq (.reg []
  [o1 12 (.move (.tmp 3)),
  o1 13 (.binOp .lss 5 (.tmp 12) (.const (.int .u8 128)) 5)]) (.cond (.tmp 13) (.seq (.reg []
  [o1 14 (.move (.tmp 0)),
  o1 15 (.slice 9 (.tmp 14) (some (.const (.int .i64 1))) none none),
  o1 0 (.assign (.tmp 15))]) (.seq (.seq (.reg []
  [o1 16 (.move (.tmp 0)),
  o1 17 (.call ⟨.builtin .len, #[.tmp 16], #[9]⟩),
  o1 18 (.binOp .gtr 3 (.tmp 17) (.const (.int .i64 8)) 3),
  o1 19 (.move (.tmp 18)),
  o2 20 (.move (.tmp 0)) 19 true,
  o2 21 (.call ⟨.value (.func 69), #[.tmp 20], #[9]⟩) 19 true,
  o2 22 (.binOp .and 12 (.tmp 21) (.const (.int .u64 9259542123273814144)) 12) 19 true,
  o2 23 (.binOp .eql 12 (.tmp 22) (.const (.int .u64 0)) 12) 19 true,
  o1 24 (.pick (.tmp 19) (.tmp 23) (.const (.bool false)))]) (.cond (.tmp 24) (.seq (.reg []
  [o1 25 (.move (.tmp 0)),
  o1 26 (.slice 9 (.tmp 25) (some (.const (.int .i64 8))) none none),
  o1 0 (.assign (.tmp 26))]) (.seq (.reg [o1 27 (.move (.tmp 0)),
  o1 28 (.call ⟨.builtin .len, #[.tmp 27], #[9]⟩),
  o1 29 (.binOp .gtr 3 (.tmp 28) (.const (.int .i64 16)) 3),
  o1 30 (.move (.tmp 29)),
  o2 31 (.move (.tmp 0)) 30 true,
  o2 32 (.call ⟨.value (.func 69), #[.tmp 31], #[9]⟩) 30 true,
  o2 33 (.move (.tmp 0)) 30 true,
  o2 34 (.slice 9 (.tmp 33) (some (.const (.int .i64 8))) none none) 30 true,
  o2 35 (.call ⟨.value (.func 69), #[.tmp 34], #[9]⟩) 30 true,
  o2 36 (.binOp .or 12 (.tmp 32) (.tmp 35) 12) 30 true,
  o2 37 (.binOp .and 12 (.tmp 36) (.const (.int .u64 9259542123273814144)) 12) 30 true,
  o2 38 (.binOp .eql 12 (.tmp 37) (.const (.int .u64 0)) 12) 30 true,
  o1 39 (.pick (.tmp 30) (.tmp 38) (.const (.bool false)))]
  []) (.cond (.tmp 39) (.seq (.reg []
  [o1 40 (.move (.tmp 0)),
  o1 41 (.slice 9 (.tmp 40) (some (.const (.int .i64 16))) none none),
  o1 0 (.assign (.tmp 41))]) (.block 2 (.loop (.seq (.seq (.reg [o1 42 (.move (.tmp 0)),
  o1 43 (.call ⟨.builtin .len, #[.tmp 42], #[9]⟩),
  o1 44 (.binOp .gtr 3 (.tmp 43) (.const (.int .i64 32)) 3),
  o1 45 (.move (.tmp 44)),
  o2 46 (.move (.tmp 0)) 45 true,
  o2 47 (.call ⟨.value (.func 69), #[.tmp 46], #[9]⟩) 45 true,
  o2 48 (.move (.tmp 0)) 45 true,
  o2 49 (.slice 9 (.tmp 48) (some (.const (.int .i64 8))) none none) 45 true,
  o2 50 (.call ⟨.value (.func 69), #[.tmp 49], #[9]⟩) 45 true,
  o2 51 (.binOp .or 12 (.tmp 47) (.tmp 50) 12) 45 true,
  o2 52 (.move (.tmp 0)) 45 true,
  o2 53 (.slice 9 (.tmp 52) (some (.const (.int .i64 16))) none none) 45 true,
  o2 54 (.call ⟨.value (.func 69), #[.tmp 53], #[9]⟩) 45 true,
  o2 55 (.move (.tmp 0)) 45 true,
  o2 56 (.slice 9 (.tmp 55) (some (.const (.int .i64 24))) none none) 45 true,
  o2 57 (.call ⟨.value (.func 69), #[.tmp 56], #[9]⟩) 45 true,
  o2 58 (.binOp .or 12 (.tmp 54) (.tmp 57) 12) 45 true,
  o2 59 (.binOp .or 12 (.tmp 51) (.tmp 58) 12) 45 true,
  o2 60 (.binOp .and 12 (.tmp 59) (.const (.int .u64 9259542123273814144)) 12) 45 true,
  o2 61 (.binOp .eql 12 (.tmp 60) (.const (.int .u64 0)) 12) 45 true,
  o1 62 (.pick (.tmp 45) (.tmp 61) (.const (.bool false)))]
  []) (.cond (.tmp 62) (.skip) (.exit 2))) (.block 3 (.reg []
  [o1 63 (.move (.tmp 0)),
  o1 64 (.slice 9 (.tmp 63) (some (.const (.int .i64 32))) none none),
  o1 0 (.assign (.tmp 64))])))))) (.skip)))) (.skip))) (.exit 1))) (.skip))) (.seq (.reg []
  [o1 65 (.move (.tmp 3)),
  o1 66 (.indexAddr 115 (.global 1) (.tmp 65)),
  o1 67 (.load 5 (.tmp 66)),
  o1 4 (.assign (.tmp 67))]) (.seq (.reg []
  [o1 68 (.move (.tmp 4)),
  o1 69 (.binOp .and 5 (.tmp 68) (.const (.int .u8 7)) 5),
  o1 70 (.convert 5 3 (.tmp 69)),
  o1 5 (.assign (.tmp 70))]) (.seq (.reg []
  [o1 71 (.move (.tmp 4)),
  o1 72 (.binOp .shr 5 (.tmp 71) (.const (.int .u64 4)) 97),
  o1 73 (.indexAddr 118 (.global 2) (.tmp 72)),
  o1 74 (.load 117 (.tmp 73)),
  o1 6 (.alloc 117),
  o3 (.store 117 (.tmp 6) (.tmp 74))]) (.seq (.reg []
  [o1 75 (.move (.tmp 5))]) (.block 4 (.seq (.reg []
  [o1 77 (.binOp .eql 3 (.tmp 75) (.const (.int .i64 2)) 3),
  o1 76 (.assign (.tmp 77))]) (.cond (.tmp 76) (.seq (.seq (.reg [o1 78 (.move (.tmp 0)),
  o1 79 (.call ⟨.builtin .len, #[.tmp 78], #[9]⟩),
  o1 80 (.binOp .lss 3 (.tmp 79) (.const (.int .i64 2)) 3),
  o1 81 (.move (.tmp 80)),
  o2 82 (.move (.tmp 0)) 81 false,
  o2 83 (.index 9 (.tmp 82) (.const (.int .i64 1))) 81 false,
  o2 84 (.fieldAddr 117 (.tmp 6) 0) 81 false,
  o2 85 (.load 5 (.tmp 84)) 81 false,
  o2 86 (.binOp .lss 5 (.tmp 83) (.tmp 85) 5) 81 false,
  o1 87 (.pick (.tmp 81) (.const (.bool true)) (.tmp 86)),
  o1 88 (.move (.tmp 87)),
  o2 89 (.fieldAddr 117 (.tmp 6) 1) 88 false,
  o2 90 (.load 5 (.tmp 89)) 88 false,
  o2 91 (.move (.tmp 0)) 88 false,
  o2 92 (.index 9 (.tmp 91) (.const (.int .i64 1))) 88 false,
  o2 93 (.binOp .lss 5 (.tmp 90) (.tmp 92) 5) 88 false,
  o1 94 (.pick (.tmp 88) (.const (.bool true)) (.tmp 93))]
  []) (.cond (.tmp 94) (.seq (.reg []
  [o1 2 (.assign (.const (.bool false)))]) (.ret)) (.skip))) (.reg []
  [o1 95 (.move (.tmp 0)),
  o1 96 (.slice 9 (.tmp 95) (some (.const (.int .i64 2))) none none),
  o1 0 (.assign (.tmp 96))])) (.seq (.reg []
  [o1 98 (.binOp .eql 3 (.tmp 75) (.const (.int .i64 3)) 3),
  o1 97 (.assign (.tmp 98))]) (.cond (.tmp 97) (.seq (.seq (.reg [o1 99 (.move (.tmp 0)),
  o1 100 (.call ⟨.builtin .len, #[.tmp 99], #[9]⟩),
  o1 101 (.binOp .lss 3 (.tmp 100) (.const (.int .i64 3)) 3),
  o1 102 (.move (.tmp 101)),
  o2 103 (.move (.tmp 0)) 102 false,
  o2 104 (.index 9 (.tmp 103) (.const (.int .i64 1))) 102 false,
  o2 105 (.fieldAddr 117 (.tmp 6) 0) 102 false,
  o2 106 (.load 5 (.tmp 105)) 102 false,
  o2 107 (.binOp .lss 5 (.tmp 104) (.tmp 106) 5) 102 false,
  o1 108 (.pick (.tmp 102) (.const (.bool true)) (.tmp 107)),
  o1 109 (.move (.tmp 108)),
  o2 110 (.fieldAddr 117 (.tmp 6) 1) 109 false,
  o2 111 (.load 5 (.tmp 110)) 109 false,
  o2 112 (.move (.tmp 0)) 109 false,
  o2 113 (.index 9 (.tmp 112) (.const (.int .i64 1))) 109 false,
  o2 114 (.binOp .lss 5 (.tmp 111) (.tmp 113) 5) 109 false,
  o1 115 (.pick (.tmp 109) (.const (.bool true)) (.tmp 114)),
  o1 116 (.move (.tmp 115)),
  o2 117 (.move (.tmp 0)) 116 false,
  o2 118 (.index 9 (.tmp 117) (.const (.int .i64 2))) 116 false,
  o2 119 (.binOp .lss 5 (.tmp 118) (.const (.int .u8 128)) 5) 116 false,
  o1 120 (.pick (.tmp 116) (.const (.bool true)) (.tmp 119)),
  o1 121 (.move (.tmp 120)),
  o2 122 (.move (.tmp 0)) 121 false,
  o2 123 (.index 9 (.tmp 122) (.const (.int .i64 2))) 121 false,
  o2 124 (.binOp .lss 5 (.const (.int .u8 191)) (.tmp 123) 5) 121 false,
  o1 125 (.pick (.tmp 121) (.const (.bool true)) (.tmp 124))]
  []) (.cond (.tmp 125) (.seq (.reg []
  [o1 2 (.assign (.const (.bool false)))]) (.ret)) (.skip))) (.reg []
  [o1 126 (.move (.tmp 0)),
  o1 127 (.slice 9 (.tmp 126) (some (.const (.int .i64 3))) none none),
  o1 0 (.assign (.tmp 127))])) (.seq (.reg []
  [o1 129 (.binOp .eql 3 (.tmp 75) (.const (.int .i64 4)) 3),
  o1 128 (.assign (.tmp 129))]) (.cond (.tmp 128) (.seq (.seq (.reg [o1 130 (.move (.tmp 0)),
  o1 131 (.call ⟨.builtin .len, #[.tmp 130], #[9]⟩),
  o1 132 (.binOp .lss 3 (.tmp 131) (.const (.int .i64 4)) 3),
  o1 133 (.move (.tmp 132)),
  o2 134 (.move (.tmp 0)) 133 false,
  o2 135 (.index 9 (.tmp 134) (.const (.int .i64 1))) 133 false,
  o2 136 (.fieldAddr 117 (.tmp 6) 0) 133 false,
  o2 137 (.load 5 (.tmp 136)) 133 false,
  o2 138 (.binOp .lss 5 (.tmp 135) (.tmp 137) 5) 133 false,
  o1 139 (.pick (.tmp 133) (.const (.bool true)) (.tmp 138)),
  o1 140 (.move (.tmp 139)),
  o2 141 (.fieldAddr 117 (.tmp 6) 1) 140 false,
  o2 142 (.load 5 (.tmp 141)) 140 false,
  o2 143 (.move (.tmp 0)) 140 false,
  o2 144 (.index 9 (.tmp 143) (.const (.int .i64 1))) 140 false,
  o2 145 (.binOp .lss 5 (.tmp 142) (.tmp 144) 5) 140 false,
  o1 146 (.pick (.tmp 140) (.const (.bool true)) (.tmp 145)),
  o1 147 (.move (.tmp 146)),
  o2 148 (.move (.tmp 0)) 147 false,
  o2 149 (.index 9 (.tmp 148) (.const (.int .i64 2))) 147 false,
  o2 150 (.binOp .lss 5 (.tmp 149) (.const (.int .u8 128)) 5) 147 false,
  o1 151 (.pick (.tmp 147) (.const (.bool true)) (.tmp 150)),
  o1 152 (.move (.tmp 151)),
  o2 153 (.move (.tmp 0)) 152 false,
  o2 154 (.index 9 (.tmp 153) (.const (.int .i64 2))) 152 false,
  o2 155 (.binOp .lss 5 (.const (.int .u8 191)) (.tmp 154) 5) 152 false,
  o1 156 (.pick (.tmp 152) (.const (.bool true)) (.tmp 155)),
  o1 157 (.move (.tmp 156)),
  o2 158 (.move (.tmp 0)) 157 false,
  o2 159 (.index 9 (.tmp 158) (.const (.int .i64 3))) 157 false,
  o2 160 (.binOp .lss 5 (.tmp 159) (.const (.int .u8 128)) 5) 157 false,
  o1 161 (.pick (.tmp 157) (.const (.bool true)) (.tmp 160)),
  o1 162 (.move (.tmp 161)),
  o2 163 (.move (.tmp 0)) 162 false,
  o2 164 (.index 9 (.tmp 163) (.const (.int .i64 3))) 162 false,
  o2 165 (.binOp .lss 5 (.const (.int .u8 191)) (.tmp 164) 5) 162 false,
  o1 166 (.pick (.tmp 162) (.const (.bool true)) (.tmp 165))]
  []) (.cond (.tmp 166) (.seq (.reg []
  [o1 2 (.assign (.const (.bool false)))]) (.ret)) (.skip))) (.reg []
  [o1 167 (.move (.tmp 0)),
  o1 168 (.slice 9 (.tmp 167) (some (.const (.int .i64 4))) none none),
  o1 0 (.assign (.tmp 168))])) (.seq (.reg []
  [o1 2 (.assign (.const (.bool false)))]) (.ret))))))))))))))))))) (.seq (.reg []
  [o1 2 (.assign (.const (.bool true)))]) (.ret)))
def ms54_0 : List Nat := [0, 1, 2, 3, 4, 5, 6, 7, 8, 9, 10, 11, 12, 13, 14, 15, 16, 17, 18, 19, 20, 21, 22, 23, 24, 25, 26, 27, 28, 29, 30, 31, 32, 33, 34, 35, 36, 37, 38, 39, 40, 41, 42, 43, 44, 45, 46, 47, 48, 49, 50, 51, 52, 53, 54, 55, 56, 57, 58, 59, 60, 61, 62, 63, 64, 65, 66, 67, 68, 69, 70, 71, 72, 73, 74, 75, 76, 77, 78, 79, 80, 81, 82, 83, 84, 85, 86, 87, 88, 89, 90, 91, 92, 93, 94, 95, 96, 97, 98, 99, 100, 101, 102, 103, 104, 105, 106, 107, 108, 109, 110, 111, 112, 113, 114, 115, 116, 117, 118, 119, 120, 121, 122, 123, 124, 125, 126, 127, 128, 129, 130, 131, 132, 133, 134, 135, 136, 137, 138, 139, 140, 141, 142, 143, 144, 145, 146, 147, 148, 149, 150, 151, 152, 153, 154, 155, 156, 157, 158, 159, 160, 161, 162, 163, 164, 165, 166, 167, 168]
def ms54_1 : List Nat := [0, 1, 42, 43, 44, 45, 46, 47, 48, 49, 50, 51, 52, 53, 54, 55, 56, 57, 58, 59, 60, 61, 62, 63, 64]
theorem ls54 : Tryd.f54.body.map (strip Tryd.prog impCodC) = some lc54 := by kernel_rfl
theorem lcall54 : LC 54 169 lc54 [.tmp 2] := LC.of Tryd.func54 (by kernel_rfl) ls54 (by kernel_rfl) (by kernel_rfl)
/-- slices.ContainsFunc[[]string,string] -/
def lc55 : LCode := .seq (.reg []
  [o1 4 (.assign (.const (.bool false)))]) (.seq (.reg []
  [o1 5 (.move (.tmp 0)),
  o1 6 (.move (.tmp 1)),
  o1 7 (.call ⟨.value (.func 70), #[.tmp 5, .tmp 6], #[23, 103]⟩),
  o1 8 (.binOp .geq 3 (.tmp 7) (.const (.int .i64 0)) 3),
  o1 4 (.assign (.tmp 8))]) (.ret))
theorem ls55 : Tryd.f55.body.map (strip Tryd.prog impCodC) = some lc55 := by kernel_rfl
theorem lcall55 : LC 55 9 lc55 [.tmp 4] := LC.of Tryd.func55 (by kernel_rfl) ls55 (by kernel_rfl) (by kernel_rfl)
/-- (escutcheon/page.Value).form$1 -/
def lc56 : LCode := .seq (.reg []
  [o1 2 (.assign (.const (.bool false)))]) (.seq (.reg []
  [o1 3 (.move (.tmp 0)),
  o1 4 (.call ⟨.value (.func 54), #[.tmp 3], #[9]⟩),
  o1 5 (.unOp .not 4 (.tmp 4)),
  o1 2 (.assign (.tmp 5))]) (.ret))
theorem ls56 : Tryd.f56.body.map (strip Tryd.prog impCodC) = some lc56 := by kernel_rfl
theorem lcall56 : LC 56 6 lc56 [.tmp 2] := LC.of Tryd.func56 (by kernel_rfl) ls56 (by kernel_rfl) (by kernel_rfl)
/-- slices.Contains[[]string,string] -/
def lc57 : LCode := .seq (.reg []
  [o1 4 (.assign (.const (.bool false)))]) (.seq (.reg []
  [o1 5 (.move (.tmp 0)),
  o1 6 (.move (.tmp 1)),
  o1 7 (.call ⟨.value (.func 58), #[.tmp 5, .tmp 6], #[23, 9]⟩),
  o1 8 (.binOp .geq 3 (.tmp 7) (.const (.int .i64 0)) 3),
  o1 4 (.assign (.tmp 8))]) (.ret))
theorem ls57 : Tryd.f57.body.map (strip Tryd.prog impCodC) = some lc57 := by kernel_rfl
theorem lcall57 : LC 57 9 lc57 [.tmp 4] := LC.of Tryd.func57 (by kernel_rfl) ls57 (by kernel_rfl) (by kernel_rfl)
/-- slices.Index[[]string,string] -/
def lc58 : LCode := .seq (.reg []
  [o1 4 (.assign (.const (.int .i64 0)))]) (.seq (.seq (.reg []
  [o1 6 (.move (.tmp 0)),
  o1 7 (.call ⟨.builtin .len, #[.tmp 6], #[23]⟩),
  o1 8 (.move (.const (.int .i64 0)))]) (.block 0 (.loop (.seq (.reg []
  [o1 9 (.binOp .lss 3 (.tmp 8) (.tmp 7) 3)]) (.seq (.cond (.tmp 9) (.skip) (.exit 0)) (.seq (.block 1 (.seq (.reg []
  [o1 10 (.move (.tmp 8)),
  o1 5 (.assign (.tmp 10))]) (.seq (.reg []
  [o1 11 (.move (.tmp 1)),
  o1 12 (.move (.tmp 0)),
  o1 13 (.move (.tmp 5)),
  o1 14 (.indexAddr 23 (.tmp 12) (.tmp 13)),
  o1 15 (.load 9 (.tmp 14)),
  o1 16 (.binOp .eql 9 (.tmp 11) (.tmp 15) 9)]) (.cond (.tmp 16) (.seq (.reg []
  [o1 17 (.move (.tmp 5)),
  o1 4 (.assign (.tmp 17))]) (.ret)) (.skip))))) (.reg []
  [o1 18 (.binOp .add 3 (.tmp 8) (.const (.int .i64 1)) 3),
  o1 8 (.move (.tmp 18))]))))))) (.seq (.reg []
  [o1 4 (.assign (.const (.int .i64 (-1))))]) (.ret)))
def ms58_0 : List Nat := [2, 3, 4, 5, 6, 8, 9, 10, 11, 12, 13, 14, 15, 16, 17, 18]
theorem ls58 : Tryd.f58.body.map (strip Tryd.prog impCodC) = some lc58 := by kernel_rfl
theorem lcall58 : LC 58 19 lc58 [.tmp 4] := LC.of Tryd.func58 (by kernel_rfl) ls58 (by kernel_rfl) (by kernel_rfl)
/-- unicode/utf8.word[string] -/
def lc69 : LCode := .seq (.reg []
  [o1 2 (.assign (.const (.int .u64 0)))]) (.seq (.cond (.const (.bool false)) (.seq (.reg [o1 3 (.move (.tmp 0)),
  o1 4 (.index 9 (.tmp 3) (.const (.int .i64 0))),
  o1 5 (.convert 5 12 (.tmp 4)),
  o1 6 (.move (.tmp 0)),
  o1 7 (.index 9 (.tmp 6) (.const (.int .i64 1))),
  o1 8 (.convert 5 12 (.tmp 7)),
  o1 9 (.binOp .shl 12 (.tmp 8) (.const (.int .u64 8)) 97),
  o1 10 (.binOp .or 12 (.tmp 5) (.tmp 9) 12),
  o1 11 (.move (.tmp 0)),
  o1 12 (.index 9 (.tmp 11) (.const (.int .i64 2))),
  o1 13 (.convert 5 12 (.tmp 12)),
  o1 14 (.binOp .shl 12 (.tmp 13) (.const (.int .u64 16)) 97),
  o1 15 (.binOp .or 12 (.tmp 10) (.tmp 14) 12),
  o1 16 (.move (.tmp 0)),
  o1 17 (.index 9 (.tmp 16) (.const (.int .i64 3))),
  o1 18 (.convert 5 12 (.tmp 17)),
  o1 19 (.binOp .shl 12 (.tmp 18) (.const (.int .u64 24)) 97),
  o1 20 (.binOp .or 12 (.tmp 15) (.tmp 19) 12),
  o1 2 (.assign (.tmp 20))]
  []) (.ret)) (.skip)) (.seq (.reg [o1 21 (.move (.tmp 0)),
  o1 22 (.index 9 (.tmp 21) (.const (.int .i64 0))),
  o1 23 (.convert 5 111 (.tmp 22)),
  o1 24 (.move (.tmp 0)),
  o1 25 (.index 9 (.tmp 24) (.const (.int .i64 1))),
  o1 26 (.convert 5 111 (.tmp 25)),
  o1 27 (.binOp .shl 111 (.tmp 26) (.const (.int .u64 8)) 97),
  o1 28 (.binOp .or 111 (.tmp 23) (.tmp 27) 111),
  o1 29 (.move (.tmp 0)),
  o1 30 (.index 9 (.tmp 29) (.const (.int .i64 2))),
  o1 31 (.convert 5 111 (.tmp 30)),
  o1 32 (.binOp .shl 111 (.tmp 31) (.const (.int .u64 16)) 97),
  o1 33 (.binOp .or 111 (.tmp 28) (.tmp 32) 111),
  o1 34 (.move (.tmp 0)),
  o1 35 (.index 9 (.tmp 34) (.const (.int .i64 3))),
  o1 36 (.convert 5 111 (.tmp 35)),
  o1 37 (.binOp .shl 111 (.tmp 36) (.const (.int .u64 24)) 97),
  o1 38 (.binOp .or 111 (.tmp 33) (.tmp 37) 111),
  o1 39 (.move (.tmp 0)),
  o1 40 (.index 9 (.tmp 39) (.const (.int .i64 4))),
  o1 41 (.convert 5 111 (.tmp 40)),
  o1 42 (.binOp .shl 111 (.tmp 41) (.const (.int .u64 32)) 97),
  o1 43 (.binOp .or 111 (.tmp 38) (.tmp 42) 111),
  o1 44 (.move (.tmp 0)),
  o1 45 (.index 9 (.tmp 44) (.const (.int .i64 5))),
  o1 46 (.convert 5 111 (.tmp 45)),
  o1 47 (.binOp .shl 111 (.tmp 46) (.const (.int .u64 40)) 97),
  o1 48 (.binOp .or 111 (.tmp 43) (.tmp 47) 111),
  o1 49 (.move (.tmp 0)),
  o1 50 (.index 9 (.tmp 49) (.const (.int .i64 6))),
  o1 51 (.convert 5 111 (.tmp 50)),
  o1 52 (.binOp .shl 111 (.tmp 51) (.const (.int .u64 48)) 97),
  o1 53 (.binOp .or 111 (.tmp 48) (.tmp 52) 111),
  o1 54 (.move (.tmp 0)),
  o1 55 (.index 9 (.tmp 54) (.const (.int .i64 7))),
  o1 56 (.convert 5 111 (.tmp 55)),
  o1 57 (.binOp .shl 111 (.tmp 56) (.const (.int .u64 56)) 97),
  o1 58 (.binOp .or 111 (.tmp 53) (.tmp 57) 111),
  o1 2 (.assign (.tmp 58))]
  []) (.ret)))
theorem ls69 : Tryd.f69.body.map (strip Tryd.prog impCodC) = some lc69 := by kernel_rfl
theorem lcall69 : LC 69 59 lc69 [.tmp 2] := LC.of Tryd.func69 (by kernel_rfl) ls69 (by kernel_rfl) (by kernel_rfl)
/-- slices.IndexFunc[[]string,string] -/
def lc70 : LCode := .seq (.reg []
  [o1 4 (.assign (.const (.int .i64 0)))]) (.seq (.seq (.reg []
  [o1 6 (.move (.tmp 0)),
  o1 7 (.call ⟨.builtin .len, #[.tmp 6], #[23]⟩),
  o1 8 (.move (.const (.int .i64 0)))]) (.block 0 (.loop (.seq (.reg []
  [o1 9 (.binOp .lss 3 (.tmp 8) (.tmp 7) 3)]) (.seq (.cond (.tmp 9) (.skip) (.exit 0)) (.seq (.block 1 (.seq (.reg []
  [o1 10 (.move (.tmp 8)),
  o1 5 (.assign (.tmp 10))]) (.seq (.reg []
  [o1 11 (.move (.tmp 1)),
  o1 12 (.move (.tmp 0)),
  o1 13 (.move (.tmp 5)),
  o1 14 (.indexAddr 23 (.tmp 12) (.tmp 13)),
  o1 15 (.load 9 (.tmp 14)),
  o1 16 (.call ⟨.value (.tmp 11), #[.tmp 15], #[9]⟩)]) (.cond (.tmp 16) (.seq (.reg []
  [o1 17 (.move (.tmp 5)),
  o1 4 (.assign (.tmp 17))]) (.ret)) (.skip))))) (.reg []
  [o1 18 (.binOp .add 3 (.tmp 8) (.const (.int .i64 1)) 3),
  o1 8 (.move (.tmp 18))]))))))) (.seq (.reg []
  [o1 4 (.assign (.const (.int .i64 (-1))))]) (.ret)))
def ms70_0 : List Nat := [2, 3, 4, 5, 6, 8, 9, 10, 11, 12, 13, 14, 15, 16, 17, 18]
theorem ls70 : Tryd.f70.body.map (strip Tryd.prog impCodC) = some lc70 := by kernel_rfl
theorem lcall70 : LC 70 19 lc70 [.tmp 4] := LC.of Tryd.func70 (by kernel_rfl) ls70 (by kernel_rfl) (by kernel_rfl)
/-- slices.Concat[[]string,string] -/
def lc25 : LCode := .seq (.reg []
  [o1 2 (.assign (.const (.slice none 0 0)))]) (.seq (.reg []
  [o1 3 (.assign (.const (.int .i64 0)))]) (.seq (.seq (.reg []
  [o1 9 (.move (.tmp 0)),
  o1 10 (.call ⟨.builtin .len, #[.tmp 9], #[88]⟩),
  o1 11 (.move (.const (.int .i64 0)))]) (.block 0 (.loop (.seq (.reg []
  [o1 12 (.binOp .lss 3 (.tmp 11) (.tmp 10) 3)]) (.seq (.cond (.tmp 12) (.skip) (.exit 0)) (.seq (.block 1 (.seq (.reg []
  [o1 13 (.indexAddr 88 (.tmp 9) (.tmp 11)),
  o1 14 (.load 23 (.tmp 13)),
  o1 5 (.assign (.tmp 14))]) (.seq (.reg []
  [o1 15 (.move (.tmp 3)),
  o1 16 (.move (.tmp 5)),
  o1 17 (.call ⟨.builtin .len, #[.tmp 16], #[23]⟩),
  o1 18 (.binOp .add 3 (.tmp 15) (.tmp 17) 3),
  o1 3 (.assign (.tmp 18))]) (.seq (.reg []
  [o1 19 (.move (.tmp 3)),
  o1 20 (.binOp .lss 3 (.tmp 19) (.const (.int .i64 0)) 3)]) (.cond (.tmp 20) (.reg []
  [o1 21 (.makeInterface 9 (.const (.string { data := #[108, 101, 110, 32, 111, 117, 116, 32, 111, 102, 32, 114, 97, 110, 103, 101] }))),
  o3 (.panic (.tmp 21))]) (.skip)))))) (.reg []
  [o1 22 (.binOp .add 3 (.tmp 11) (.const (.int .i64 1)) 3),
  o1 11 (.move (.tmp 22))]))))))) (.seq (.reg []
  [o1 23 (.move (.tmp 3)),
  o1 24 (.call ⟨.value (.func 41), #[.const (.slice none 0 0), .tmp 23], #[23, 3]⟩),
  o1 6 (.assign (.tmp 24))]) (.seq (.seq (.reg []
  [o1 25 (.move (.tmp 0)),
  o1 26 (.call ⟨.builtin .len, #[.tmp 25], #[88]⟩),
  o1 27 (.move (.const (.int .i64 0)))]) (.block 2 (.loop (.seq (.reg []
  [o1 28 (.binOp .lss 3 (.tmp 27) (.tmp 26) 3)]) (.seq (.cond (.tmp 28) (.skip) (.exit 2)) (.seq (.block 3 (.seq (.reg []
  [o1 29 (.indexAddr 88 (.tmp 25) (.tmp 27)),
  o1 30 (.load 23 (.tmp 29)),
  o1 8 (.assign (.tmp 30))]) (.reg []
  [o1 31 (.move (.tmp 6)),
  o1 32 (.move (.tmp 8)),
  o1 33 (.call ⟨.builtin .append, #[.tmp 31, .tmp 32], #[23, 23]⟩),
  o1 6 (.assign (.tmp 33))]))) (.reg []
  [o1 34 (.binOp .add 3 (.tmp 27) (.const (.int .i64 1)) 3),
  o1 27 (.move (.tmp 34))]))))))) (.seq (.reg []
  [o1 35 (.move (.tmp 6)),
  o1 2 (.assign (.tmp 35))]) (.ret))))))
def ms25_0 : List Nat := [1, 3, 4, 5, 7, 11, 12, 13, 14, 15, 16, 17, 18, 19, 20, 21, 22]
def ms25_1 : List Nat := [0, 1, 3, 4, 5, 6, 7, 8, 9, 10, 11, 12, 13, 14, 15, 16, 17, 18, 19, 20, 21, 22, 23, 24, 27, 28, 29, 30, 31, 32, 33, 34]
theorem ls25 : Tryd.f25.body.map (strip Tryd.prog impCodC) = some lc25 := by kernel_rfl
theorem lcall25 : LC 25 36 lc25 [.tmp 2] := LC.of Tryd.func25 (by kernel_rfl) ls25 (by kernel_rfl) (by kernel_rfl)
end Go.Abs.S
namespace Go.Abs
set_option linter.unusedVariables false
variable {P : Program} {G : Glob} {t : List AV} {H : AHeap} {Q : APost}
/-- They meet behind the code that follows. -/
theorem lavc_join2 {a : LCode} (ms : List Nat) {X : Type} (I : X → Prop) (live : X → List (Nat × AV)) (hp : X → AHeap) {b c : LCode}
    (h1 : lavc P G a t H fun e t' H' => match e with
      | .normal => lavc P G b t' H' fun e t' H' => match e with
        | .normal => ∃ x, I x ∧ ALe t' (putAll (blank t ms) (live x)) ∧ H' = hp x
        | e => Q e t' H'
      | e => Q e t' H') (h2 : ∀ x, I x → lavc P G c (putAll (blank t ms) (live x)) (hp x) Q) : lavc P G a t H fun e t' H' => match e with
      | .normal => lavc P G (.seq b c) t' H' Q
      | e => Q e t' H' := lavc_mono h1 fun e t' H' h => by
  cases e with
  | normal =>
    refine lavc_seq (lavc_mono h fun e t' H' h => ?_)
    cases e with
    | normal =>
      obtain ⟨x, hx, hle, rfl⟩ := h
      exact lavc_weak (h2 x hx) hle
    | _ => exact h
  | _ => exact h
/-- They meet here. -/
theorem lavc_joinS {a b : LCode} (ms : List Nat) {X : Type} (I : X → Prop) (live : X → List (Nat × AV)) (hp : X → AHeap)
    (h1 : lavc P G a t H fun e t' H' => match e with
      | .normal => ∃ x, I x ∧ ALe t' (putAll (blank t ms) (live x)) ∧ H' = hp x
      | e => Q e t' H') (h2 : ∀ x, I x → lavc P G b (putAll (blank t ms) (live x)) (hp x) Q) : lavc P G (.seq a b) t H Q := lavc_seq (lavc_join ms I live hp h1 h2)
/-- Arguments that may be looked at in two ways. -/
def AvLs : List AV → List AV → Prop
  | [], [] => True
  | x :: xs, y :: ys => AvLe x y ∧ AvLs xs ys
  | _, _ => False
theorem AvLs.length : ∀ {xs ys : List AV}, AvLs xs ys → xs.length = ys.length
  | [], [], _ => rfl
  | x :: xs, y :: ys, h => by simp [AvLs.length h.2]
  | [], _ :: _, h => h.elim
  | _ :: _, [], h => h.elim
theorem AvLs.get : ∀ {xs ys : List AV}, AvLs xs ys → ∀ j, j < xs.length → AvLe (xs.getD j .any) (ys.getD j .any)
  | [], [], _, j, hj => by simp at hj
  | x :: xs, y :: ys, h, 0, _ => by simpa using h.1
  | x :: xs, y :: ys, h, j + 1, hj => by simpa using AvLs.get h.2 j (by simpa using hj)
  | [], _ :: _, h, _, _ => h.elim
  | _ :: _, [], h, _, _ => h.elim
theorem PCall.les {n : FuncId} {args args' : List AV} {r : AV} (h : PCall P G n args' r) (hl : AvLs args args') : PCall P G n args r := h.le hl.length hl.get
/-- Bytes as a text. -/
theorem str_list (l : List Int) : (strOf l).toList = l.map fun n => UInt8.ofNat n.toNat := by simp [strOf, ByteArray.toList_eq]
theorem u8_of (x : Int) (h : 0 ≤ x ∧ x ≤ 255) : ((UInt8.ofNat x.toNat).toNat : Int) = x := by
  rw [UInt8.toNat_ofNat']
  omega
theorem bytes_str {l : List Int} (h : ∀ x ∈ l, 0 ≤ x ∧ x ≤ 255) : bytesOf (strOf l) = l := by
  unfold bytesOf
  have : (strOf l).data.toList = l.map fun n => UInt8.ofNat n.toNat := by simp [strOf]
  rw [this, List.map_map]
  conv => rhs; rw [← List.map_id l]
  exact List.map_congr_left fun x hx => u8_of x (h x hx)
theorem str_bytes (s : ByteArray) : strOf (bytesOf s) = s := by
  refine WideShapes.bytes_inj ?_
  unfold strOf bytesOf
  simp only [List.map_map]
  conv => rhs; rw [← List.map_id s.data.toList]
  refine List.map_congr_left fun x _ => ?_
  simp
theorem str_inj {a b : List Int} (ha : ∀ x ∈ a, 0 ≤ x ∧ x ≤ 255) (hb : ∀ x ∈ b, 0 ≤ x ∧ x ≤ 255) (h : strOf a = strOf b) : a = b := by
  have := congrArg bytesOf h
  rwa [bytes_str ha, bytes_str hb] at this
theorem list_inj {s t : ByteArray} (h : s.toList = t.toList) : s = t := WideShapes.bytes_inj (by rwa [ByteArray.toList_eq, ByteArray.toList_eq] at h)
theorem str_eq {a b : List Int} (ha : ∀ x ∈ a, 0 ≤ x ∧ x ≤ 255) (hb : ∀ x ∈ b, 0 ≤ x ∧ x ≤ 255) : ((strOf a).toList == (strOf b).toList) = decide (a = b) := by
  rw [Bool.eq_iff_iff, beq_iff_eq, decide_eq_true_eq]
  exact ⟨fun h => str_inj ha hb (list_inj h), fun h => by rw [h]⟩
theorem str_size (l : List Int) : (strOf l).size = l.length := by
  show ((l.map fun n => UInt8.ofNat n.toNat).toArray).size = _
  simp
theorem bytes_length (s : ByteArray) : (bytesOf s).length = s.size := by
  simp only [bytesOf, List.length_map, Array.length_toList]
  rfl
theorem bytes_u8 (s : ByteArray) : ∀ x ∈ bytesOf s, 0 ≤ x ∧ x ≤ 255 := by
  intro x hx
  simp only [bytesOf, List.mem_map] at hx
  obtain ⟨b, _, rfl⟩ := hx
  have := b.toNat_lt
  omega
end Go.Abs
namespace Go.Abs.S
attribute [local go_sem] lguard aopO aop aenv toAV tput aLoad aStore vcells aBin aNilI aUn aAlloc aBox aBuild aBSlice afill aConv isIntT aappZ aCap aArr aMM aMake aSlice bnd3 bnd aFldAddr aFld aIdxAddr aIdx aExt aLen aCopy aEq0 bAV aUb aapp aappQ agh acont List.getD_cons_zero List.getD_cons_succ List.set_cons_zero List.set_cons_succ List.getElem?_cons_zero List.getElem?_cons_succ List.length_cons List.length_nil List.map_cons List.map_nil ints_length if_true if_false Bool.false_eq_true true_and and_true eq_self ne_eq not_false_eq_true not_true_eq_false beq_self_eq_true Nat.zero_add Nat.add_zero Nat.mul_one Nat.zero_mul Int.toNat_natCast List.toList_toArray List.all_cons List.all_nil AV.one Value.oneCell' Bool.and_true Bool.true_and forall_const true_implies false_implies implies_true Option.map_some Option.map_none Option.isSome_some Option.isSome_none imp_self rdP_flat rdP_row splice_one ints_set ints_get List.append_nil List.cons_append List.nil_append List.getElem?_toArray List.drop_zero ints_drop ints_take List.take_of_length_le splice_all ints_one Option.some.injEq Option.getD_some List.length_replicate zArr List.map_replicate rep_ints splice_intsR List.length_set List.length_append List.flatten_replicate_singleton rep_slice rep_string rep_bool rep_iface List.replicate_zero if_pos if_neg List.mapM_cons List.mapM_nil Option.pure_def Option.bind_eq_bind Option.bind_some Bool.true_eq_false Bool.not_false Bool.not_true get_concat set_concat
open Go.Proofs
set_option linter.unusedVariables false
set_option linter.unusedSimpArgs false
set_option maxRecDepth 100000
set_option maxHeartbeats 8000000
/-- A text's byte. -/
def bq (s : ByteArray) (i : Nat) : Int := ((s.data.toList.getD i 0).toNat : Int)
theorem bq_byte (s : ByteArray) (i : Nat) : 0 ≤ bq s i ∧ bq s i ≤ 255 := by
  unfold bq
  have := (s.data.toList.getD i 0).toNat_lt
  omega
def wb (t : ByteArray) (k : Nat) : Int := IntKind.u64.wrap ((t.data.toList.getD k 0).toNat : Int)
/-- Eight bytes as a number. -/
def wordP (t : ByteArray) : Int :=
  ibits .or .u64 (ibits .or .u64 (ibits .or .u64 (ibits .or .u64 (ibits .or .u64 (ibits .or .u64 (ibits .or .u64 (wb t 0) (shlI .u64 (wb t 1) 8)) (shlI .u64 (wb t 2) 16)) (shlI .u64 (wb t 3) 24)) (shlI .u64 (wb t 4) 32)) (shlI .u64 (wb t 5) 40)) (shlI .u64 (wb t 6) 48)) (shlI .u64 (wb t 7) 56)
theorem word_p (t : ByteArray) (h : 8 ≤ t.size) : PCall Tryd.prog glob 69 [.v (.string t)] (.v (.int .u64 (wordP t))) := by
  refine PCall.of ctx.nr nrs (NR.v _) ?_
  refine lcall69 (by simp) 0 (Nat.le_refl _) ?_
  unfold lc69
  refine I1 tt ⟨?_⟩
  refine G1 F4 tt tt tt tt ⟨?_⟩
  refine R1 tt ⟨?_⟩
  exact end0 (NR.v _) rfl
/-- The rest behind so many bytes. -/
abbrev rst (t : ByteArray) (n : Nat) : ByteArray := t.extract n t.size
theorem rst_size (t : ByteArray) (n : Nat) : (rst t n).size = t.size - n := by simp
def c8 (t : ByteArray) : Bool := ibits .and .u64 (wordP t) 9259542123273814144 == 0
def c16 (t : ByteArray) : Bool := ibits .and .u64 (ibits .or .u64 (wordP t) (wordP (rst t 8))) 9259542123273814144 == 0
def c32 (t : ByteArray) : Bool := ibits .and .u64 (ibits .or .u64 (ibits .or .u64 (wordP t) (wordP (rst t 8))) (ibits .or .u64 (wordP (rst t 16)) (wordP (rst t 24)))) 9259542123273814144 == 0
def skipL : Nat → ByteArray → ByteArray
  | 0, t => t
  | k + 1, t => if 32 < t.size ∧ c32 t = true then skipL k (rst t 32) else t
def skipB (t : ByteArray) : ByteArray := if 16 < t.size ∧ c16 t = true then skipL t.size (rst t 16) else t
def skipA (t : ByteArray) : ByteArray := if 8 < t.size ∧ c8 t = true then skipB (rst t 8) else t
theorem skipL_size : ∀ (k : Nat) (t : ByteArray), (skipL k t).size ≤ t.size
  | 0, t => Nat.le_refl _
  | k + 1, t => by
    unfold skipL
    split
    · have := skipL_size k (rst t 32)
      rw [rst_size] at this
      omega
    · exact Nat.le_refl _
theorem skipA_size (t : ByteArray) : (skipA t).size ≤ t.size := by
  unfold skipA
  split
  · unfold skipB
    have h := rst_size t 8
    split
    · have := skipL_size (rst t 8).size (rst (rst t 8) 16)
      have h2 := rst_size (rst t 8) 16
      omega
    · omega
  · exact Nat.le_refl _
/-- What the first byte tells: how many there are, and between which the second one lies. -/
def fstB (t : ByteArray) : Int := lay_unicode_utf8_first.getD (bq t 0).toNat 0
def cntB (t : ByteArray) : Int := IntKind.i64.wrap (ibits .and .u8 (fstB t) 7)
def loB (t : ByteArray) : Int := lay_unicode_utf8_acceptRanges.getD ((fstB t).toNat / 16 * 2) 0
def hiB (t : ByteArray) : Int := lay_unicode_utf8_acceptRanges.getD ((fstB t).toNat / 16 * 2 + 1) 0
def stepN (t : ByteArray) : Option Nat :=
  if cntB t = 2 then (if t.size < 2 ∨ bq t 1 < loB t ∨ hiB t < bq t 1 then none else some 2)
  else if cntB t = 3 then (if t.size < 3 ∨ bq t 1 < loB t ∨ hiB t < bq t 1 ∨ bq t 2 < 128 ∨ 191 < bq t 2 then none else some 3)
  else if cntB t = 4 then (if t.size < 4 ∨ bq t 1 < loB t ∨ hiB t < bq t 1 ∨ bq t 2 < 128 ∨ 191 < bq t 2 ∨ bq t 3 < 128 ∨ 191 < bq t 3 then none else some 4)
  else none
def vsF : Nat → ByteArray → Bool
  | 0, _ => true
  | k + 1, t => if t.size = 0 then true else if bq t 0 < 128 then vsF k (skipA (rst t 1)) else match stepN t with
    | none => false
    | some n => vsF k (rst t n)
/-- Is a text UTF-8? -/
def validP (s : ByteArray) : Bool := vsF (s.size + 1) s
theorem vsF_end (k : Nat) (t : ByteArray) (h : t.size = 0) : vsF (k + 1) t = true := by
  unfold vsF
  rw [if_pos h]
theorem vsF_ascii (k : Nat) (t : ByteArray) (h : 0 < t.size) (h2 : bq t 0 < 128) : vsF (k + 1) t = vsF k (skipA (rst t 1)) := by
  rw [vsF, if_neg (by omega), if_pos h2]
theorem vsF_bad (k : Nat) (t : ByteArray) (h : 0 < t.size) (h2 : ¬ bq t 0 < 128) (h3 : stepN t = none) : vsF (k + 1) t = false := by
  rw [vsF, if_neg (by omega), if_neg h2, h3]
theorem vsF_some (k n : Nat) (t : ByteArray) (h : 0 < t.size) (h2 : ¬ bq t 0 < 128) (h3 : stepN t = some n) : vsF (k + 1) t = vsF k (rst t n) := by
  rw [vsF, if_neg (by omega), if_neg h2, h3]
theorem first_in : ∀ b : Nat, b < 256 → 0 ≤ lay_unicode_utf8_first.getD b 0 ∧ lay_unicode_utf8_first.getD b 0 ≤ 255 := by decide +kernel
theorem acc_in : ∀ p : Nat, p < 16 → (lay_unicode_utf8_acceptRanges.drop (p * 2)).take 2 = [lay_unicode_utf8_acceptRanges.getD (p * 2) 0, lay_unicode_utf8_acceptRanges.getD (p * 2 + 1) 0] := by decide +kernel
theorem valid_p (s : ByteArray) (hs : s.size ≤ 9223372036854775807) : PCall Tryd.prog glob 54 [.v (.string s)] (.v (.bool (validP s))) := by
  obtain ⟨V, hV⟩ : ∃ V, validP s = V := ⟨_, rfl⟩
  rw [hV]
  refine PCall.of ctx.nr nrs (NR.v _) ?_
  refine lcall54 (by simp) 0 (Nat.le_refl _) ?_
  unfold lc54
  refine I1 tt ⟨?_⟩
  refine G1 F4 tt tt tt tt ⟨?_⟩
  refine lavc_loopM ms54_0 (fun m (x : Nat × ByteArray × AHeap) => m = x.1 ∧ x.2.1.size < x.1 ∧ x.2.1.size ≤ 9223372036854775807 ∧ vsF x.1 x.2.1 = V) (fun x => [(0, .v (.string x.2.1))]) (fun x => x.2.2) (s.size + 1) (s.size + 1, s, []) ⟨rfl, Nat.lt_succ_self _, hs, hV⟩ ?_ rfl ?_
  · try unfold ms54_0
    exact A0 tt
  rintro m ⟨k, t, gg⟩ ⟨hmk, hlt, hts, hinv⟩
  simp only at hmk hlt hts hinv ⊢
  try unfold ms54_0
  refine M1 tt ⟨?_⟩
  obtain ⟨k, rfl⟩ : ∃ k', k = k' + 1 := ⟨k - 1, by omega⟩
  refine G1 F1 tt tt tt tt ⟨?_⟩
  refine cnd rfl (fun hc => ?_) (fun hc => ?_)
  · have hb := bq_byte t 0
    have ht0 : 0 < t.size := by omega
    obtain ⟨b, hb0⟩ : ∃ b, bq t 0 = b := ⟨_, rfl⟩
    have hsb : ((t.data.toList.getD 0 0).toNat : Int) = b := hb0
    rw [hb0] at hb
    by_cases h128 : b < 128
    · have q1 : decide (b < 128) = true := by rw [decide_eq_true_eq]; omega
      rw [vsF_ascii k t ht0 (by rw [hb0]; exact h128)] at hinv
      have hus := rst_size t 1
      obtain ⟨u, hu⟩ : ∃ u, t.extract 1 t.size = u := ⟨_, rfl⟩
      have hu' : rst t 1 = u := hu
      rw [hu'] at hus hinv
      have hsk := skipA_size u
      have next : ∀ v, skipA u = v → v.size < k ∧ v.size ≤ 9223372036854775807 ∧ vsF k v = V := fun v hv => by
        rw [hv] at hsk hinv
        exact ⟨by omega, by omega, hinv⟩
      have w8 := fun h => word_p u h
      by_cases g8 : 8 < u.size
      · have d8 : decide ((u.size : Int) > 8) = true := by rw [decide_eq_true_eq]; omega
        have w8 := w8 (by omega)
        by_cases k8 : c8 u = true
        · have e8 : (ibits .and .u64 (wordP u) 9259542123273814144 == 0) = true := k8
          have hu2s := rst_size u 8
          obtain ⟨u2, hu2⟩ : ∃ u2, u.extract 8 u.size = u2 := ⟨_, rfl⟩
          have hu2' : rst u 8 = u2 := hu2
          rw [hu2'] at hu2s
          have hA : skipA u = skipB u2 := by unfold skipA; rw [if_pos ⟨g8, k8⟩, hu2']
          by_cases g16 : 16 < u2.size
          · have d16 : decide ((u2.size : Int) > 16) = true := by rw [decide_eq_true_eq]; omega
            have w16 := word_p u2 (by omega)
            have hu3s := rst_size u2 8
            have w17 := word_p (u2.extract 8 u2.size) (by rw [hu3s]; omega)
            by_cases k16 : c16 u2 = true
            · have e16 : (ibits .and .u64 (ibits .or .u64 (wordP u2) (wordP (u2.extract 8 u2.size))) 9259542123273814144 == 0) = true := k16
              have hB : skipB u2 = skipL u2.size (rst u2 16) := by unfold skipB; rw [if_pos ⟨g16, k16⟩]
              have hu4s := rst_size u2 16
              obtain ⟨u4, hu4⟩ : ∃ x, u2.extract 16 u2.size = x := ⟨_, rfl⟩
              have hu4' : rst u2 16 = u4 := hu4
              rw [hu4'] at hu4s hB
              refine G1 F4 (an hsb (an q1 (an hu (an d8 (an e8 (an hu2 (an d16 (an e16 (an hu4 tt))))))))) (an w8.go (an w16.go (an w17.go tt))) tt tt ⟨?_⟩
              refine lavc_loopM ms54_1 (fun m (x : Nat × ByteArray) => m = x.1 ∧ x.2.size ≤ 32 * x.1 ∧ x.2.size ≤ 9223372036854775807 ∧ skipL x.1 x.2 = skipA u) (fun x => [(0, .v (.string x.2))]) (fun x => gg) u2.size (u2.size, u4) ⟨rfl, by show u4.size ≤ 32 * u2.size; omega, by show u4.size ≤ 9223372036854775807; omega, by rw [hA, hB]⟩ ?_ rfl ?_
              · try unfold ms54_1
                exact A0 tt
              rintro m1 ⟨j, y⟩ ⟨hmj, hy1, hy2, hy3⟩
              simp only at hmj hy1 hy2 hy3 ⊢
              try unfold ms54_1
              refine M1 tt ⟨?_⟩
              by_cases g32 : 32 < y.size
              · have d32 : decide ((y.size : Int) > 32) = true := by rw [decide_eq_true_eq]; omega
                obtain ⟨j, rfl⟩ : ∃ j', j = j' + 1 := ⟨j - 1, by omega⟩
                have p0 := word_p y (by omega)
                have p1 := word_p (y.extract 8 y.size) (by have h := rst_size y 8; exact (by omega : 8 ≤ (rst y 8).size))
                have p2 := word_p (y.extract 16 y.size) (by have h := rst_size y 16; exact (by omega : 8 ≤ (rst y 16).size))
                have p3 := word_p (y.extract 24 y.size) (by have h := rst_size y 24; exact (by omega : 8 ≤ (rst y 24).size))
                by_cases k32 : c32 y = true
                · have e32 : (ibits .and .u64 (ibits .or .u64 (ibits .or .u64 (wordP y) (wordP (y.extract 8 y.size))) (ibits .or .u64 (wordP (y.extract 16 y.size)) (wordP (y.extract 24 y.size)))) 9259542123273814144 == 0) = true := k32
                  rw [skipL, if_pos ⟨g32, k32⟩] at hy3
                  have hzs := rst_size y 32
                  refine G1 F4 (an d32 (an e32 tt)) (an p0.go (an p1.go (an p2.go (an p3.go tt)))) tt tt ⟨?_⟩
                  refine ⟨j, (j, rst y 32), by omega, ⟨rfl, by show (rst y 32).size ≤ 32 * j; omega, by show (rst y 32).size ≤ 9223372036854775807; omega, hy3⟩, ?_, (by first | rfl | trivial)⟩
                  try unfold ms54_1
                  exact A0 tt
                · have e32 : (ibits .and .u64 (ibits .or .u64 (ibits .or .u64 (wordP y) (wordP (y.extract 8 y.size))) (ibits .or .u64 (wordP (y.extract 16 y.size)) (wordP (y.extract 24 y.size)))) 9259542123273814144 == 0) = false := by simpa [c32] using k32
                  rw [skipL, if_neg (by intro h; exact k32 h.2)] at hy3
                  refine G1 F4 (an d32 (an e32 tt)) (an p0.go (an p1.go (an p2.go (an p3.go tt)))) tt tt ⟨?_⟩
                  obtain ⟨n1, n2, n3⟩ := next y hy3.symm
                  refine ⟨k, (k, y, gg), by omega, ⟨rfl, n1, n2, n3⟩, ?_, rfl⟩
                  try unfold ms54_0
                  exact A0 tt
              · have d32 : decide ((y.size : Int) > 32) = false := by rw [decide_eq_false_iff_not]; omega
                have hy4 : y = skipA u := by
                  rw [← hy3]
                  cases j with
                  | zero => rfl
                  | succ j => rw [skipL, if_neg (by intro h; exact g32 h.1)]
                refine G1 F4 (an d32 tt) tt tt tt ⟨?_⟩
                obtain ⟨n1, n2, n3⟩ := next y hy4.symm
                refine ⟨k, (k, y, gg), by omega, ⟨rfl, n1, n2, n3⟩, ?_, rfl⟩
                try unfold ms54_0
                exact A0 tt
            · have e16 : (ibits .and .u64 (ibits .or .u64 (wordP u2) (wordP (u2.extract 8 u2.size))) 9259542123273814144 == 0) = false := by simpa [c16] using k16
              have hB : skipB u2 = u2 := by unfold skipB; rw [if_neg (by intro h; exact k16 h.2)]
              refine G1 F4 (an hsb (an q1 (an hu (an d8 (an e8 (an hu2 (an d16 (an e16 tt)))))))) (an w8.go (an w16.go (an w17.go tt))) tt tt ⟨?_⟩
              obtain ⟨n1, n2, n3⟩ := next u2 (hA.trans hB)
              refine ⟨k, (k, u2, gg), by omega, ⟨rfl, n1, n2, n3⟩, ?_, rfl⟩
              try unfold ms54_0
              exact A0 tt
          · have d16 : decide ((u2.size : Int) > 16) = false := by rw [decide_eq_false_iff_not]; omega
            have hB : skipB u2 = u2 := by unfold skipB; rw [if_neg (by intro h; exact g16 h.1)]
            refine G1 F4 (an hsb (an q1 (an hu (an d8 (an e8 (an hu2 (an d16 tt))))))) (an w8.go tt) tt tt ⟨?_⟩
            obtain ⟨n1, n2, n3⟩ := next u2 (hA.trans hB)
            refine ⟨k, (k, u2, gg), by omega, ⟨rfl, n1, n2, n3⟩, ?_, rfl⟩
            try unfold ms54_0
            exact A0 tt
        · have e8 : (ibits .and .u64 (wordP u) 9259542123273814144 == 0) = false := by simpa [c8] using k8
          have hA : skipA u = u := by unfold skipA; rw [if_neg (by intro h; exact k8 h.2)]
          refine G1 F4 (an hsb (an q1 (an hu (an d8 (an e8 tt))))) (an w8.go tt) tt tt ⟨?_⟩
          obtain ⟨n1, n2, n3⟩ := next u hA
          refine ⟨k, (k, u, gg), by omega, ⟨rfl, n1, n2, n3⟩, ?_, rfl⟩
          try unfold ms54_0
          exact A0 tt
      · have d8 : decide ((u.size : Int) > 8) = false := by rw [decide_eq_false_iff_not]; omega
        have hA : skipA u = u := by unfold skipA; rw [if_neg (by intro h; exact g8 h.1)]
        refine G1 F4 (an hsb (an q1 (an hu (an d8 tt)))) tt tt tt ⟨?_⟩
        obtain ⟨n1, n2, n3⟩ := next u hA
        refine ⟨k, (k, u, gg), by omega, ⟨rfl, n1, n2, n3⟩, ?_, rfl⟩
        try unfold ms54_0
        exact A0 tt
    · have q1 : decide (b < 128) = false := by rw [decide_eq_false_iff_not]; omega
      have hnb : ¬ bq t 0 < 128 := by rw [hb0]; exact h128
      have hfi := first_in b.toNat (by omega)
      obtain ⟨f, hf⟩ : ∃ f : Nat, lay_unicode_utf8_first.getD b.toNat 0 = (f : Int) := ⟨(lay_unicode_utf8_first.getD b.toNat 0).toNat, by omega⟩
      have hfst : fstB t = (f : Int) := by unfold fstB; rw [hb0, hf]
      rw [hf] at hfi
      have hlen : lay_unicode_utf8_first.length = 256 := by decide +kernel
      have hlen2 : lay_unicode_utf8_acceptRanges.length = 32 := rfl
      obtain ⟨p, hp⟩ : ∃ p, f / 16 = p := ⟨_, rfl⟩
      have sh : shrI .u8 (f : Int) 4 = (p : Int) := by rw [shrI_le _ _ _ (by decide), ← hp]; rfl
      have hpl : p < 16 := by omega
      have hac := acc_in p hpl
      have hlo0 : loB t = lay_unicode_utf8_acceptRanges.getD (p * 2) 0 := by unfold loB; rw [hfst, ← hp]; rfl
      have hhi0 : hiB t = lay_unicode_utf8_acceptRanges.getD (p * 2 + 1) 0 := by unfold hiB; rw [hfst, ← hp]; rfl
      obtain ⟨lo, hlo⟩ : ∃ v, lay_unicode_utf8_acceptRanges.getD (p * 2) 0 = v := ⟨_, rfl⟩
      obtain ⟨hi, hhi⟩ : ∃ v, lay_unicode_utf8_acceptRanges.getD (p * 2 + 1) 0 = v := ⟨_, rfl⟩
      rw [hlo] at hlo0
      rw [hhi] at hhi0
      rw [hlo, hhi] at hac
      obtain ⟨n, hn⟩ : ∃ n, IntKind.i64.wrap (ibits .and .u8 (f : Int) 7) = n := ⟨_, rfl⟩
      have hcn : cntB t = n := by unfold cntB; rw [hfst, hn]
      obtain ⟨b1, hb1⟩ : ∃ v, bq t 1 = v := ⟨_, rfl⟩
      obtain ⟨b2, hb2⟩ : ∃ v, bq t 2 = v := ⟨_, rfl⟩
      obtain ⟨b3, hb3⟩ : ∃ v, bq t 3 = v := ⟨_, rfl⟩
      have hs1 : ((t.data.toList.getD 1 0).toNat : Int) = b1 := hb1
      have hs2 : ((t.data.toList.getD 2 0).toNat : Int) = b2 := hb2
      have hs3 : ((t.data.toList.getD 3 0).toNat : Int) = b3 := hb3
      have bad : stepN t = none → V = false := fun h => by rw [← hinv, vsF_bad k t ht0 hnb h]
      have good : ∀ q, 0 < q → stepN t = some q → (rst t q).size < k ∧ (rst t q).size ≤ 9223372036854775807 ∧ vsF k (rst t q) = V := fun q hq h => by
        rw [vsF_some k q t ht0 hnb h] at hinv
        have := rst_size t q
        exact ⟨by omega, by omega, hinv⟩
      repeat (first
        | (with_reducible refine lops_step fun K hK => ?_; simp (disch := first | exact dch | fail) only [go_sem, Nat.reduceAdd, Nat.reduceSub, reduceIte, Nat.reduceEqDiff, Int.reduceToNat, Int.reduceBEq, Int.reduceBNe, hsb, q1, hlen, hf, sh, hlen2, hac, hn, get_concat, set_concat]; (try (first | (refine And.intro (fun _ => ?_) (fun h => absurd h (by decide))) | (refine And.intro (fun h => absurd h (by decide)) (fun _ => ?_)))); (repeat (with_reducible refine And.intro acl ?_)); (first | (refine hK _ _ ?_) | (refine ⟨_, rfl, hK _ _ ?_⟩) | (refine Or.inl (hK _ _ ?_))); clear hK K)
        | (with_reducible refine lops_nil ?_)
        | (with_reducible first | refine lavc_reg ?_ | refine lavc_seq ?_ | refine lavc_block ?_ | refine lavc_skip ?_ | refine lavc_exit ?_ | refine lavc_ret ?_ | refine lavcR_round ?_)
        | (refine lavc_cond rfl (fun _ => ?_) (fun hc => absurd hc (by decide)))
        | (refine lavc_cond rfl (fun hc => absurd hc (by decide)) (fun _ => ?_))
        | (simp only [↓reduceIte, Nat.reduceEqDiff, reduceCtorEq]))
      refine lavc_cond rfl (fun hc => ?_) (fun hc => ?_)
      · have n2 : n = 2 := by simpa using hc
        by_cases s0 : t.size < 2
        · have d0 : decide ((t.size : Int) < 2) = true := by rw [decide_eq_true_eq]; omega
          have hst : stepN t = none := by unfold stepN; rw [hcn, if_pos n2, hlo0, hhi0, hb1, if_pos (by omega)]
          rw [bad hst]
          refine G1 F4 (an d0 (an hs1 (an hs2 (an hs3 tt)))) tt tt tt ⟨?_⟩
          refine R1 tt ⟨?_⟩
          exact end0 (NR.v _) rfl
        have d0 : decide ((t.size : Int) < 2) = false := by rw [decide_eq_false_iff_not]; omega
        by_cases s1 : b1 < lo
        · have d1 : decide (b1 < lo) = true := by rw [decide_eq_true_eq]; omega
          have hst : stepN t = none := by unfold stepN; rw [hcn, if_pos n2, hlo0, hhi0, hb1, if_pos (by omega)]
          rw [bad hst]
          refine G1 F4 (an d0 (an d1 (an hs1 (an hs2 (an hs3 tt))))) tt tt tt ⟨?_⟩
          refine R1 tt ⟨?_⟩
          exact end0 (NR.v _) rfl
        have d1 : decide (b1 < lo) = false := by rw [decide_eq_false_iff_not]; omega
        by_cases s2 : hi < b1
        · have d2 : decide (hi < b1) = true := by rw [decide_eq_true_eq]; omega
          have hst : stepN t = none := by unfold stepN; rw [hcn, if_pos n2, hlo0, hhi0, hb1, if_pos (by omega)]
          rw [bad hst]
          refine G1 F4 (an d0 (an d1 (an d2 (an hs1 (an hs2 (an hs3 tt)))))) tt tt tt ⟨?_⟩
          refine R1 tt ⟨?_⟩
          exact end0 (NR.v _) rfl
        have d2 : decide (hi < b1) = false := by rw [decide_eq_false_iff_not]; omega
        have hst : stepN t = some 2 := by unfold stepN; rw [hcn, if_pos n2, hlo0, hhi0, hb1, if_neg (by omega)]
        obtain ⟨m1, m2, m3⟩ := good 2 (by decide) hst
        refine G1 F4 (an d0 (an d1 (an d2 (an hs1 (an hs2 (an hs3 tt)))))) tt tt tt ⟨?_⟩
        refine ⟨k, (k, rst t 2, gg ++ [⟨ints .u8 [lo, hi], 0, true, 117⟩]), by omega, ⟨rfl, m1, m2, m3⟩, ?_, rfl⟩
        try unfold ms54_0
        exact A0 tt
      have n2 : n ≠ 2 := by simpa using hc
      refine G1 F4 (an hs1 (an hs2 (an hs3 tt))) tt tt tt ⟨?_⟩
      refine lavc_cond rfl (fun hc => ?_) (fun hc => ?_)
      · have n3 : n = 3 := by simpa using hc
        by_cases s0 : t.size < 3
        · have d0 : decide ((t.size : Int) < 3) = true := by rw [decide_eq_true_eq]; omega
          have hst : stepN t = none := by unfold stepN; rw [hcn, if_neg n2, if_pos n3, hlo0, hhi0, hb1, hb2, if_pos (by omega)]
          rw [bad hst]
          refine G1 F4 (an d0 (an hs1 (an hs2 (an hs3 tt)))) tt tt tt ⟨?_⟩
          refine R1 tt ⟨?_⟩
          exact end0 (NR.v _) rfl
        have d0 : decide ((t.size : Int) < 3) = false := by rw [decide_eq_false_iff_not]; omega
        by_cases s1 : b1 < lo
        · have d1 : decide (b1 < lo) = true := by rw [decide_eq_true_eq]; omega
          have hst : stepN t = none := by unfold stepN; rw [hcn, if_neg n2, if_pos n3, hlo0, hhi0, hb1, hb2, if_pos (by omega)]
          rw [bad hst]
          refine G1 F4 (an d0 (an d1 (an hs1 (an hs2 (an hs3 tt))))) tt tt tt ⟨?_⟩
          refine R1 tt ⟨?_⟩
          exact end0 (NR.v _) rfl
        have d1 : decide (b1 < lo) = false := by rw [decide_eq_false_iff_not]; omega
        by_cases s2 : hi < b1
        · have d2 : decide (hi < b1) = true := by rw [decide_eq_true_eq]; omega
          have hst : stepN t = none := by unfold stepN; rw [hcn, if_neg n2, if_pos n3, hlo0, hhi0, hb1, hb2, if_pos (by omega)]
          rw [bad hst]
          refine G1 F4 (an d0 (an d1 (an d2 (an hs1 (an hs2 (an hs3 tt)))))) tt tt tt ⟨?_⟩
          refine R1 tt ⟨?_⟩
          exact end0 (NR.v _) rfl
        have d2 : decide (hi < b1) = false := by rw [decide_eq_false_iff_not]; omega
        by_cases s3 : b2 < 128
        · have d3 : decide (b2 < 128) = true := by rw [decide_eq_true_eq]; omega
          have hst : stepN t = none := by unfold stepN; rw [hcn, if_neg n2, if_pos n3, hlo0, hhi0, hb1, hb2, if_pos (by omega)]
          rw [bad hst]
          refine G1 F4 (an d0 (an d1 (an d2 (an d3 (an hs1 (an hs2 (an hs3 tt))))))) tt tt tt ⟨?_⟩
          refine R1 tt ⟨?_⟩
          exact end0 (NR.v _) rfl
        have d3 : decide (b2 < 128) = false := by rw [decide_eq_false_iff_not]; omega
        by_cases s4 : 191 < b2
        · have d4 : decide (191 < b2) = true := by rw [decide_eq_true_eq]; omega
          have hst : stepN t = none := by unfold stepN; rw [hcn, if_neg n2, if_pos n3, hlo0, hhi0, hb1, hb2, if_pos (by omega)]
          rw [bad hst]
          refine G1 F4 (an d0 (an d1 (an d2 (an d3 (an d4 (an hs1 (an hs2 (an hs3 tt)))))))) tt tt tt ⟨?_⟩
          refine R1 tt ⟨?_⟩
          exact end0 (NR.v _) rfl
        have d4 : decide (191 < b2) = false := by rw [decide_eq_false_iff_not]; omega
        have hst : stepN t = some 3 := by unfold stepN; rw [hcn, if_neg n2, if_pos n3, hlo0, hhi0, hb1, hb2, if_neg (by omega)]
        obtain ⟨m1, m2, m3⟩ := good 3 (by decide) hst
        refine G1 F4 (an d0 (an d1 (an d2 (an d3 (an d4 (an hs1 (an hs2 (an hs3 tt)))))))) tt tt tt ⟨?_⟩
        refine ⟨k, (k, rst t 3, gg ++ [⟨ints .u8 [lo, hi], 0, true, 117⟩]), by omega, ⟨rfl, m1, m2, m3⟩, ?_, rfl⟩
        try unfold ms54_0
        exact A0 tt
      have n3 : n ≠ 3 := by simpa using hc
      refine G1 F4 (an hs1 (an hs2 (an hs3 tt))) tt tt tt ⟨?_⟩
      refine lavc_cond rfl (fun hc => ?_) (fun hc => ?_)
      · have n4 : n = 4 := by simpa using hc
        by_cases s0 : t.size < 4
        · have d0 : decide ((t.size : Int) < 4) = true := by rw [decide_eq_true_eq]; omega
          have hst : stepN t = none := by unfold stepN; rw [hcn, if_neg n2, if_neg n3, if_pos n4, hlo0, hhi0, hb1, hb2, hb3, if_pos (by omega)]
          rw [bad hst]
          refine G1 F4 (an d0 (an hs1 (an hs2 (an hs3 tt)))) tt tt tt ⟨?_⟩
          refine R1 tt ⟨?_⟩
          exact end0 (NR.v _) rfl
        have d0 : decide ((t.size : Int) < 4) = false := by rw [decide_eq_false_iff_not]; omega
        by_cases s1 : b1 < lo
        · have d1 : decide (b1 < lo) = true := by rw [decide_eq_true_eq]; omega
          have hst : stepN t = none := by unfold stepN; rw [hcn, if_neg n2, if_neg n3, if_pos n4, hlo0, hhi0, hb1, hb2, hb3, if_pos (by omega)]
          rw [bad hst]
          refine G1 F4 (an d0 (an d1 (an hs1 (an hs2 (an hs3 tt))))) tt tt tt ⟨?_⟩
          refine R1 tt ⟨?_⟩
          exact end0 (NR.v _) rfl
        have d1 : decide (b1 < lo) = false := by rw [decide_eq_false_iff_not]; omega
        by_cases s2 : hi < b1
        · have d2 : decide (hi < b1) = true := by rw [decide_eq_true_eq]; omega
          have hst : stepN t = none := by unfold stepN; rw [hcn, if_neg n2, if_neg n3, if_pos n4, hlo0, hhi0, hb1, hb2, hb3, if_pos (by omega)]
          rw [bad hst]
          refine G1 F4 (an d0 (an d1 (an d2 (an hs1 (an hs2 (an hs3 tt)))))) tt tt tt ⟨?_⟩
          refine R1 tt ⟨?_⟩
          exact end0 (NR.v _) rfl
        have d2 : decide (hi < b1) = false := by rw [decide_eq_false_iff_not]; omega
        by_cases s3 : b2 < 128
        · have d3 : decide (b2 < 128) = true := by rw [decide_eq_true_eq]; omega
          have hst : stepN t = none := by unfold stepN; rw [hcn, if_neg n2, if_neg n3, if_pos n4, hlo0, hhi0, hb1, hb2, hb3, if_pos (by omega)]
          rw [bad hst]
          refine G1 F4 (an d0 (an d1 (an d2 (an d3 (an hs1 (an hs2 (an hs3 tt))))))) tt tt tt ⟨?_⟩
          refine R1 tt ⟨?_⟩
          exact end0 (NR.v _) rfl
        have d3 : decide (b2 < 128) = false := by rw [decide_eq_false_iff_not]; omega
        by_cases s4 : 191 < b2
        · have d4 : decide (191 < b2) = true := by rw [decide_eq_true_eq]; omega
          have hst : stepN t = none := by unfold stepN; rw [hcn, if_neg n2, if_neg n3, if_pos n4, hlo0, hhi0, hb1, hb2, hb3, if_pos (by omega)]
          rw [bad hst]
          refine G1 F4 (an d0 (an d1 (an d2 (an d3 (an d4 (an hs1 (an hs2 (an hs3 tt)))))))) tt tt tt ⟨?_⟩
          refine R1 tt ⟨?_⟩
          exact end0 (NR.v _) rfl
        have d4 : decide (191 < b2) = false := by rw [decide_eq_false_iff_not]; omega
        by_cases s5 : b3 < 128
        · have d5 : decide (b3 < 128) = true := by rw [decide_eq_true_eq]; omega
          have hst : stepN t = none := by unfold stepN; rw [hcn, if_neg n2, if_neg n3, if_pos n4, hlo0, hhi0, hb1, hb2, hb3, if_pos (by omega)]
          rw [bad hst]
          refine G1 F4 (an d0 (an d1 (an d2 (an d3 (an d4 (an d5 (an hs1 (an hs2 (an hs3 tt))))))))) tt tt tt ⟨?_⟩
          refine R1 tt ⟨?_⟩
          exact end0 (NR.v _) rfl
        have d5 : decide (b3 < 128) = false := by rw [decide_eq_false_iff_not]; omega
        by_cases s6 : 191 < b3
        · have d6 : decide (191 < b3) = true := by rw [decide_eq_true_eq]; omega
          have hst : stepN t = none := by unfold stepN; rw [hcn, if_neg n2, if_neg n3, if_pos n4, hlo0, hhi0, hb1, hb2, hb3, if_pos (by omega)]
          rw [bad hst]
          refine G1 F4 (an d0 (an d1 (an d2 (an d3 (an d4 (an d5 (an d6 (an hs1 (an hs2 (an hs3 tt)))))))))) tt tt tt ⟨?_⟩
          refine R1 tt ⟨?_⟩
          exact end0 (NR.v _) rfl
        have d6 : decide (191 < b3) = false := by rw [decide_eq_false_iff_not]; omega
        have hst : stepN t = some 4 := by unfold stepN; rw [hcn, if_neg n2, if_neg n3, if_pos n4, hlo0, hhi0, hb1, hb2, hb3, if_neg (by omega)]
        obtain ⟨m1, m2, m3⟩ := good 4 (by decide) hst
        refine G1 F4 (an d0 (an d1 (an d2 (an d3 (an d4 (an d5 (an d6 (an hs1 (an hs2 (an hs3 tt)))))))))) tt tt tt ⟨?_⟩
        refine ⟨k, (k, rst t 4, gg ++ [⟨ints .u8 [lo, hi], 0, true, 117⟩]), by omega, ⟨rfl, m1, m2, m3⟩, ?_, rfl⟩
        try unfold ms54_0
        exact A0 tt
      have n4 : n ≠ 4 := by simpa using hc
      have hst : stepN t = none := by unfold stepN; rw [hcn, if_neg n2, if_neg n3, if_neg n4]
      rw [bad hst]
      refine G1 F4 (an hs1 (an hs2 (an hs3 tt))) tt tt tt ⟨?_⟩
      refine R1 tt ⟨?_⟩
      exact end0 (NR.v _) rfl
  · obtain rfl : V = true := by rw [← hinv, vsF_end k t (by omega)]
    refine G1 F4 tt tt tt tt ⟨?_⟩
    refine R1 tt ⟨?_⟩
    exact end0 (NR.v _) rfl
end Go.Abs.S
namespace Go.Abs
open Go.RowKit
set_option linter.unusedVariables false
set_option linter.unusedSimpArgs false
variable {P : Program} {G : Glob} {σ : Sig} {H : AHeap} {w : World}
/-- The range over a function in a code. -/
def rfOf : Code → Option (Operand × Array Tmp × Code × Code)
  | .rangeFunc g ps a b => some (g, ps, a, b)
  | .seq x y => (rfOf x).orElse fun _ => rfOf y
  | .cond _ x y => (rfOf x).orElse fun _ => rfOf y
  | .block _ c => rfOf c
  | .loop c => rfOf c
  | _ => none
theorem AR.monoC {σ : Sig} {w w' : World} (hc : ∀ B o v, w.cell? ⟨B, o, none⟩ = some v → w'.cell? ⟨B, o, none⟩ = some v) {x : AV} {u : Value} (h : AR σ w x u) : AR σ w' x u := by
  induction h with
  | any u => exact .any u
  | v x => exact .v x
  | ptr h => exact .ptr h
  | sl h hc hx hl => exact .sl h hc hx hl
  | sl0 A => exact .sl0 A
  | vptr B o u hr hm _ ih => exact .vptr B o u hr (fun j hj => hc _ _ _ (hm j hj)) ih
  | vsl B o cap' u hr hm _ hl hx ih => exact .vsl B o cap' u hr (fun j hj => hc _ _ _ (hm j hj)) ih hl hx
  | vsl0 A cap' hx => exact .vsl0 A cap' hx
  | agg us hl _ ih => exact .agg us hl ih
  | tup us hl _ ih => exact .tup us hl ih
  | fn us hl _ ih => exact .fn us hl ih
  | ifc _ ih => exact .ifc ih
  | ub b => exact .ub b
  | bsl0 => exact .bsl0
  | bsl h h0 hc hl => exact .bsl h h0 hc hl
  | usd0 p => exact .usd0 p
  | usd h => exact .usd h
  | bad0 => exact .bad0
  | bad h => exact .bad h
/-- Another object than cells comes up, or is turned. -/
theorem Rel.grow (r : Rel G σ H w) {w' : World} {row : Option Nat} (hg : w.grownBy w' row) (hr : ∀ k, row = some k → ∃ o : Obj, w.heap[k]? = some o ∧ o.isCells = false) : Rel G σ H w' ∧ ∀ x u, AR σ w x u → AR σ w' x u := by
  have hcell : ∀ (B : Nat) (C : Array Value) (T : TypeId) (fr : Nat × Nat), w.heap[B]? = some (Obj.cells C T fr) → w'.heap[B]? = some (Obj.cells C T fr) := fun B C T fr h => by
    refine (hg.block B (Array.getElem?_eq_some_iff.1 h).1 fun e => ?_).trans h
    obtain ⟨o, h1, h2⟩ := hr B e.symm
    rw [h] at h1
    cases h1
    cases h2
  have hc : ∀ B o v, w.cell? ⟨B, o, Option.none⟩ = some v → w'.cell? ⟨B, o, Option.none⟩ = some v := fun B o v h => by
    have e : w'.heap[B]? = w.heap[B]? := by
      cases hB : w.heap[B]? with
      | none => simp [World.cell?, hB] at h
      | some ob =>
        cases ob with
        | cells C T fr => exact hcell B C T fr hB
        | _ => simp [World.cell?, hB] at h
    rw [World.cell?_of_block (a := ⟨B, o, Option.none⟩) e]
    exact h
  have hm : ∀ x u, AR σ w x u → AR σ w' x u := fun x u h => h.monoC hc
  refine ⟨⟨fun b k l h1 h2 h3 => ?_, r.inj, r.apart, fun B hB => Nat.lt_of_lt_of_le (r.roLt B hB) hg.size, r.fresh, fun g => hm _ _ (r.glob g), r.base0⟩, hm⟩
  obtain ⟨C, fr, c1, c2, c3, c4, c5⟩ := r.blk b k l h1 h2 h3
  refine ⟨C, fr, hcell _ _ _ _ c1, c2, c3, c4, fun j hj => ?_⟩
  obtain ⟨v, e1, e2⟩ := c5 j hj
  exact ⟨v, e1, hm _ _ e2⟩
theorem Ext.grow {σ0 : Sig} {H0 : AHeap} {w0 : World} (x : Ext σ0 H0 w0 σ H w) {w' : World} {row : Option Nat} (hg : w.grownBy w' row) (hr : ∀ k, row = some k → w0.heap.size ≤ k) : Ext σ0 H0 w0 σ H w' :=
  ⟨hg.os.trans x.os, hg.tape.trans x.tape, hg.output.trans x.output, Nat.le_trans x.size hg.size, x.ρ, x.ro, fun B hB hn => (hg.block B (Nat.lt_of_lt_of_le hB x.size) fun e => by have := hr B e.symm; omega).trans (x.frame B hB hn), x.new, x.stay, x.roNew, x.len⟩
/-- What is no cells, stays. -/
theorem Ext.keeps {σ0 : Sig} {H0 : AHeap} {w0 : World} (r : Rel G σ0 H0 w0) (x : Ext σ0 H0 w0 σ H w) : KeepsOthers w0 w := ⟨x.size, fun k o hk ho => by
  refine (x.frame k (Array.getElem?_eq_some_iff.1 hk).1 fun ⟨b, kb, l, h1, h2, h3, e⟩ => ?_).trans hk
  obtain ⟨C, fr, c1, _⟩ := r.blk b kb l h1 h2 h3
  rw [e, hk] at c1
  cases c1
  cases ho⟩
theorem wpList_ndef {ops : Array Oper} {Q : Exit → Act → World → Prop} (hq : ∀ a' w', Q .normal a' w' → a'.defers = []) : ∀ {l : List Oper} {a : Act} {w : World}, wpList P ops (nrm Q) l a w → a.defers = []
  | [], a, w, h => hq _ _ h.2
  | o :: rest, a, w, h => by
    have hput : ∀ v w', wpList P ops (nrm Q) rest (a.put o.dst v) w' → a.defers = [] := fun v w' h => (Act.put_def _ _ _).symm.trans (wpList_ndef hq h)
    unfold wpList at h
    split at h
    · rcases h with h | h
      · unfold Oper.wp at h
        generalize (execOp a.eval o).run P w = r at *
        match r, h with
        | .ok (.value v) w', h => exact hput v w' h
        | .ok .skip w', h => exact hput _ w' h
        | .ok (.defer d) w', h =>
          have := (Act.put_def _ _ _).symm.trans (wpList_ndef hq h)
          cases this
        | .ok (.enter f args) w', h =>
          obtain ⟨e, w'', _, hR, _⟩ := h []
          cases e with
          | returned v => exact hput v w'' hR
          | panicked c => cases hR.1
          | outgrown => exact absurd hR nrm_out
        | .ok (.row row args) w', h =>
          obtain ⟨v, w'', hR, _⟩ := h default []
          exact hput v w'' hR
        | .halt (.panic v) w', h => cases h.1
      · exact absurd h.2 nrm_out
    · exact hput _ w h
/-- Operations that defer nothing do not look at what is deferred. -/
theorem wpList_def {ops : Array Oper} {Q : Exit → Act → World → Prop} (ds : List Deferred) (hq : ∀ a' w', Q .normal a' w' → a'.defers = []) : ∀ {l : List Oper} {a : Act} {w : World}, wpList P ops (nrm Q) l a w →
    wpList P ops (nrm fun e a' w' => ∃ a0, Q e a0 w' ∧ a' = { a0 with defers := ds }) l { a with defers := ds } w
  | [], a, w, h => ⟨rfl, a, h.2, rfl⟩
  | o :: rest, a, w, h => by
    have next : ∀ v w', wpList P ops (nrm Q) rest (a.put o.dst v) w' → wpList P ops (nrm fun e a' w' => ∃ a0, Q e a0 w' ∧ a' = { a0 with defers := ds }) rest (({ a with defers := ds } : Act).put o.dst v) w' := fun v w' h => by
      have hput : ({ a with defers := ds } : Act).put o.dst v = { a.put o.dst v with defers := ds } := by cases o.dst <;> rfl
      rw [hput]
      exact wpList_def ds hq h
    unfold wpList at h ⊢
    have hy : yielded ops ({ a with defers := ds } : Act).tmps = yielded ops a.tmps := rfl
    rw [hy]
    split
    · rename_i hw
      rw [if_pos hw] at h
      rcases h with h | h
      · left
        unfold Oper.wp at h ⊢
        have he : ({ a with defers := ds } : Act).eval = a.eval := rfl
        rw [he]
        generalize (execOp a.eval o).run P w = r at *
        match r, h with
        | .ok (.value v) w', h => exact next _ _ h
        | .ok .skip w', h => exact next _ _ h
        | .ok (.defer d) w', h =>
          have := (Act.put_def _ _ _).symm.trans (wpList_ndef hq h)
          cases this
        | .ok (.enter f args) w', h =>
          refine Calls.mono h fun e w'' he => ?_
          cases e with
          | returned v => exact next _ _ he
          | panicked c => cases he.1
          | outgrown => exact absurd he nrm_out
        | .ok (.row row args) w', h => exact Rows.mono h fun v w'' he => next _ _ he
        | .halt (.panic v) w', h => cases h.1
      · exact absurd h.2 nrm_out
    · rename_i hw
      rw [if_neg hw] at h
      exact next _ _ h
end Go.Abs
namespace Go.Abs.S
open Go.Proofs
set_option maxRecDepth 100000
def impCodF : FuncId → Bool := fun f => f == 20 || f == 22 || f == 35 || f == 51 || f == 67
/-- A round of escutcheon/page.Of. -/
def lcb10 : LCode := .block 1 (.seq (.reg []
  [o1 9 (Go.Op.move (Go.Operand.tmp 4)),
  o1 10 (Go.Op.call ⟨Go.Callee.builtin Go.Builtin.len, #[Go.Operand.tmp 9], #[23]⟩),
  o1 11 (Go.Op.binOp Go.BinOp.eql 3 (Go.Operand.tmp 10) (Go.Operand.const (Go.Value.int Go.IntKind.i64 2)) 3)]) (.cond (Go.Operand.tmp 11) (.regl [o1 19 (Go.Op.fieldAddr 26 (Go.Operand.tmp 3) 3),
  o1 20 (Go.Op.load 24 (Go.Operand.tmp 19)),
  o1 21 (Go.Op.move (Go.Operand.tmp 4)),
  o1 22 (Go.Op.indexAddr 23 (Go.Operand.tmp 21) (Go.Operand.const (Go.Value.int Go.IntKind.i64 1))),
  o1 23 (Go.Op.load 9 (Go.Operand.tmp 22)),
  o1 24 (Go.Op.build 26 #[(0, Go.Operand.const (Go.Value.int Go.IntKind.i64 4)), (1, Go.Operand.tmp 23)]),
  o1 25 (Go.Op.buildSlice 24 1 #[(0, Go.Operand.tmp 24)]),
  o1 27 (Go.Op.fieldAddr 26 (Go.Operand.tmp 3) 2)]
  [o1 12 (Go.Op.fieldAddr 26 (Go.Operand.tmp 3) 2),
  o1 13 (Go.Op.load 23 (Go.Operand.tmp 12)),
  o1 14 (Go.Op.move (Go.Operand.tmp 4)),
  o1 15 (Go.Op.indexAddr 23 (Go.Operand.tmp 14) (Go.Operand.const (Go.Value.int Go.IntKind.i64 0))),
  o1 16 (Go.Op.load 9 (Go.Operand.tmp 15)),
  o1 17 (Go.Op.buildSlice 23 1 #[(0, Go.Operand.tmp 16)])]
  [o1 18 (Go.Op.call ⟨Go.Callee.builtin Go.Builtin.append, #[Go.Operand.tmp 13, Go.Operand.tmp 17], #[23, 23]⟩),
  o1 26 (Go.Op.call ⟨Go.Callee.builtin Go.Builtin.append, #[Go.Operand.tmp 20, Go.Operand.tmp 25], #[24, 24]⟩)]
  [o3 (Go.Op.store 23 (Go.Operand.tmp 27) (Go.Operand.tmp 18)),
  o1 28 (Go.Op.fieldAddr 26 (Go.Operand.tmp 3) 3),
  o3 (Go.Op.store 24 (Go.Operand.tmp 28) (Go.Operand.tmp 26))]) (.skip)))
theorem lsb10 : (Tryd.f10.body.bind rfOf).map (fun x => strip Tryd.prog impCodF x.2.2.2) = some lcb10 := by kernel_rfl
end Go.Abs.S
namespace Go.Abs.S
attribute [local go_sem] lguard aopO aop aenv toAV tput aLoad aStore vcells aBin aNilI aUn aAlloc aBox aBuild aBSlice afill aConv isIntT aappZ aCap aArr aMM aMake aSlice bnd3 bnd aFldAddr aFld aIdxAddr aIdx aExt aLen aCopy aEq0 bAV aUb aapp aappQ agh acont List.getD_cons_zero List.getD_cons_succ List.set_cons_zero List.set_cons_succ List.getElem?_cons_zero List.getElem?_cons_succ List.length_cons List.length_nil List.map_cons List.map_nil ints_length if_true if_false Bool.false_eq_true true_and and_true eq_self ne_eq not_false_eq_true not_true_eq_false beq_self_eq_true Nat.zero_add Nat.add_zero Nat.mul_one Nat.zero_mul Int.toNat_natCast List.toList_toArray List.all_cons List.all_nil AV.one Value.oneCell' Bool.and_true Bool.true_and forall_const true_implies false_implies implies_true Option.map_some Option.map_none Option.isSome_some Option.isSome_none imp_self rdP_flat rdP_row splice_one ints_set ints_get List.append_nil List.cons_append List.nil_append List.getElem?_toArray List.drop_zero ints_drop ints_take List.take_of_length_le splice_all ints_one Option.some.injEq Option.getD_some List.length_replicate zArr List.map_replicate rep_ints splice_intsR List.length_set List.length_append List.flatten_replicate_singleton rep_slice rep_string rep_bool rep_iface List.replicate_zero if_pos if_neg List.mapM_cons List.mapM_nil Option.pure_def Option.bind_eq_bind Option.bind_some Bool.true_eq_false Bool.not_false Bool.not_true get_concat set_concat
open Go.Proofs
set_option linter.unusedVariables false
set_option linter.unusedSimpArgs false
set_option maxRecDepth 100000
set_option maxHeartbeats 4000000
abbrev stA (s : ByteArray) : AV := .v (.string s)
abbrev nlA : AV := .v (.slice none 0 0)
abbrev ivC (n : Int) : AV := .v (.int .i64 n)
/-- Values that are texts. -/
def valT (s : ByteArray) : List AV := [ivC 4, stA s, nlA, nlA]
def vals (X : List ByteArray) : List AV := X.flatMap valT
theorem vals_length (X : List ByteArray) : (vals X).length = X.length * 4 := by
  induction X with
  | nil => rfl
  | cons a X ih =>
    have : vals (a :: X) = valT a ++ vals X := rfl
    rw [this, List.length_append, ih]
    simp [valT]
    omega
abbrev zeroV : Blk := ⟨[ivC 0, stA ⟨#[]⟩, nlA, nlA], 0, true, 26⟩
/-- Memory while a page is made. -/
def HP (N X : List ByteArray) : AHeap := if N = [] then [zeroV, ⟨[ivC 6, stA ⟨#[]⟩, nlA, nlA], 0, true, 26⟩]
  else [zeroV, ⟨[ivC 6, stA ⟨#[]⟩, .sl 2 (N.length - 1) 0 N.length N.length 1 false, .sl 3 (N.length - 1) 0 N.length N.length 4 false], 0, true, 26⟩, ⟨strs N, N.length - 1, true, 9⟩, ⟨vals X, N.length - 1, true, 26⟩]
def tB (p : AV) : List AV := [.any, .any, .any, .ptr 1 0 0, p] ++ List.replicate 25 .any
theorem round0 (a b : ByteArray) (c : Option Nat) : lavc Tryd.prog glob lcb10 (tB (.vsl 2 (strs [a, b]) c)) (HP [] []) fun e t H => e = .normal ∧ H = HP [a] [b] := by
  unfold tB HP strs
  simp only [List.map_cons, List.map_nil, if_true, List.replicate_succ, List.replicate_zero, List.cons_append, List.nil_append]
  unfold lcb10
  refine I1 tt ⟨?_⟩
  refine G1 F4 tt tt tt tt ⟨?_⟩
  refine lavc_lateq [.ptr 1 0 3, nlA, .vsl 2 [stA a, stA b] c, .vptr [stA a, stA b] 1, stA b, .agg [ivC 4, stA b, nlA, nlA], .vsl 1 [ivC 4, stA b, nlA, nlA] (some 1), .ptr 1 0 2] ?_ ?_ <;> simp only [lputs, o1_d, o2_d, o3_d, o4_d, tput, List.set_cons_succ, List.set_cons_zero]
  · (simp only [lfreesAt]; repeat (first | exact trivial | (refine And.intro (by unfold lfreeAt; unfold aopO; simp (disch := first | exact dch | fail) only [go_sem, Nat.reduceAdd, Nat.reduceSub, reduceIte, Nat.reduceEqDiff, Int.reduceToNat, Int.reduceBEq, Int.reduceBNe]; (repeat (with_reducible refine And.intro acl ?_)); first | exact ⟨rfl, fun d h => by cases h; rfl⟩ | exact fun d h => by cases h; rfl | exact Or.inr ⟨rfl, fun d h => by cases h; rfl⟩ | exact Or.inr (fun d h => by cases h; rfl) | exact Or.inl ⟨rfl, fun d h => by cases h; rfl⟩) ?_)))
  · refine G1 F3 tt tt tt tt ⟨?_⟩
    repeat (first
      | ((with_reducible refine lopsF_step ?_ fun K hK => ?_); (case _ => (simp only [lfreesAt]; repeat (first | exact trivial | (refine And.intro (by unfold lfreeAt; unfold aopO; simp (disch := first | exact dch | fail) only [go_sem, Nat.reduceAdd, Nat.reduceSub, reduceIte, Nat.reduceEqDiff, Int.reduceToNat, Int.reduceBEq, Int.reduceBNe]; (repeat (with_reducible refine And.intro acl ?_)); first | exact ⟨rfl, fun d h => by cases h; rfl⟩ | exact fun d h => by cases h; rfl | exact Or.inr ⟨rfl, fun d h => by cases h; rfl⟩ | exact Or.inr (fun d h => by cases h; rfl) | exact Or.inl ⟨rfl, fun d h => by cases h; rfl⟩) ?_)))); with_reducible skip; simp (disch := first | exact dch | fail) only [go_sem, Nat.reduceAdd, Nat.reduceSub, reduceIte, Nat.reduceEqDiff, Int.reduceToNat, Int.reduceBEq, Int.reduceBNe]; (repeat (with_reducible refine And.intro acl ?_)); (first | (refine hK _ _ ?_) | (refine ⟨_, rfl, hK _ _ ?_⟩) | (refine Or.inr (hK _ _ ?_)) | (refine Or.inr ⟨rfl, hK _ _ ?_⟩)); clear hK K)
      | ((with_reducible refine lopsF_nil ?_ ?_); (case _ => (simp only [lfreesAt]; repeat (first | exact trivial | (refine And.intro (by unfold lfreeAt; unfold aopO; simp (disch := first | exact dch | fail) only [go_sem, Nat.reduceAdd, Nat.reduceSub, reduceIte, Nat.reduceEqDiff, Int.reduceToNat, Int.reduceBEq, Int.reduceBNe]; (repeat (with_reducible refine And.intro acl ?_)); first | exact ⟨rfl, fun d h => by cases h; rfl⟩ | exact fun d h => by cases h; rfl | exact Or.inr ⟨rfl, fun d h => by cases h; rfl⟩ | exact Or.inr (fun d h => by cases h; rfl) | exact Or.inl ⟨rfl, fun d h => by cases h; rfl⟩) ?_)))))
      | (with_reducible first | refine lavc_reg ?_ | refine lavc_seq ?_ | refine lavc_block ?_ | refine lavc_skip ?_ | refine lavc_exit ?_ | refine lavc_ret ?_ | refine lavcR_round ?_)
      | (simp only [↓reduceIte, Nat.reduceEqDiff, reduceCtorEq]))
    refine G1 F1 tt tt tt tt ⟨?_⟩
    exact ⟨trivial, rfl⟩
theorem strs_snoc (N : List ByteArray) (a : ByteArray) : strs N ++ [stA a] = strs (N ++ [a]) := by simp [strs]
theorem vals_snoc (X : List ByteArray) (b : ByteArray) : vals X ++ [ivC 4, stA b, nlA, nlA] = vals (X ++ [b]) := by simp [vals, valT]
theorem round1 (N X : List ByteArray) (h0 : N ≠ []) (hX : X.length = N.length) (hl : N.length ≤ 1000) (a b : ByteArray) (c : Option Nat) : lavc Tryd.prog glob lcb10 (tB (.vsl 2 (strs [a, b]) c)) (HP N X) fun e t H => e = .normal ∧ H = HP (N ++ [a]) (X ++ [b]) := by
  have h1 : N ++ [a] ≠ [] := by simp
  have h2 : 0 < N.length := List.length_pos_iff.2 h0
  unfold tB HP
  rw [if_neg h0, if_neg h1]
  have ls := strs_length N
  have lv := vals_length X
  have s1 := strs_snoc N a
  have v1 := vals_snoc X b
  have ev : N.length - 1 + 1 = (N ++ [a]).length - 1 := by simp; omega
  have el : N.length + 1 = (N ++ [a]).length := by simp
  obtain ⟨M, hM⟩ : ∃ M, (N ++ [a]).length = M := ⟨_, rfl⟩
  obtain ⟨SN, hSN⟩ : ∃ S, strs N = S := ⟨_, rfl⟩
  obtain ⟨SX, hSX⟩ : ∃ S, vals X = S := ⟨_, rfl⟩
  rw [hM] at ev el ⊢
  rw [hSN] at ls s1 ⊢
  rw [hSX] at lv v1 ⊢
  rw [hX] at lv
  obtain ⟨n, hn⟩ : ∃ n, N.length = n := ⟨_, rfl⟩
  rw [hn] at h2 hl ls lv ev el ⊢
  simp only [strs, List.map_cons, List.map_nil, List.replicate_succ, List.replicate_zero, List.cons_append, List.nil_append]
  unfold lcb10
  refine G1 F4 tt tt tt tt ⟨?_⟩
  refine lavc_lateq [.ptr 1 0 3, .sl 3 (n - 1) 0 n n 4 false, .vsl 2 [stA a, stA b] c, .vptr [stA a, stA b] 1, stA b, .agg [ivC 4, stA b, nlA, nlA], .vsl 1 [ivC 4, stA b, nlA, nlA] (some 1), .ptr 1 0 2] ?_ ?_ <;> simp only [lputs, o1_d, o2_d, o3_d, o4_d, tput, List.set_cons_succ, List.set_cons_zero]
  · (simp only [lfreesAt]; repeat (first | exact trivial | (refine And.intro (by unfold lfreeAt; unfold aopO; simp (disch := first | exact dch | fail) only [go_sem, Nat.reduceAdd, Nat.reduceSub, reduceIte, Nat.reduceEqDiff, Int.reduceToNat, Int.reduceBEq, Int.reduceBNe, ls, lv]; (repeat (with_reducible refine And.intro acl ?_)); first | exact ⟨rfl, fun d h => by cases h; rfl⟩ | exact fun d h => by cases h; rfl | exact Or.inr ⟨rfl, fun d h => by cases h; rfl⟩ | exact Or.inr (fun d h => by cases h; rfl) | exact Or.inl ⟨rfl, fun d h => by cases h; rfl⟩) ?_)))
  · refine G1 F3 (an ls (an lv tt)) tt tt tt ⟨?_⟩
    repeat (first
      | ((with_reducible refine lopsF_step ?_ fun K hK => ?_); (case _ => (simp only [lfreesAt]; repeat (first | exact trivial | (refine And.intro (by unfold lfreeAt; unfold aopO; simp (disch := first | exact dch | fail) only [go_sem, Nat.reduceAdd, Nat.reduceSub, reduceIte, Nat.reduceEqDiff, Int.reduceToNat, Int.reduceBEq, Int.reduceBNe, ls, lv, s1, v1, ev, el]; (repeat (with_reducible refine And.intro acl ?_)); first | exact ⟨rfl, fun d h => by cases h; rfl⟩ | exact fun d h => by cases h; rfl | exact Or.inr ⟨rfl, fun d h => by cases h; rfl⟩ | exact Or.inr (fun d h => by cases h; rfl) | exact Or.inl ⟨rfl, fun d h => by cases h; rfl⟩) ?_)))); with_reducible skip; simp (disch := first | exact dch | fail) only [go_sem, Nat.reduceAdd, Nat.reduceSub, reduceIte, Nat.reduceEqDiff, Int.reduceToNat, Int.reduceBEq, Int.reduceBNe, ls, lv, s1, v1, ev, el]; (repeat (with_reducible refine And.intro acl ?_)); (first | (refine hK _ _ ?_) | (refine ⟨_, rfl, hK _ _ ?_⟩) | (refine Or.inr (hK _ _ ?_)) | (refine Or.inr ⟨rfl, hK _ _ ?_⟩)); clear hK K)
      | ((with_reducible refine lopsF_nil ?_ ?_); (case _ => (simp only [lfreesAt]; repeat (first | exact trivial | (refine And.intro (by unfold lfreeAt; unfold aopO; simp (disch := first | exact dch | fail) only [go_sem, Nat.reduceAdd, Nat.reduceSub, reduceIte, Nat.reduceEqDiff, Int.reduceToNat, Int.reduceBEq, Int.reduceBNe, ls, lv, s1, v1, ev, el]; (repeat (with_reducible refine And.intro acl ?_)); first | exact ⟨rfl, fun d h => by cases h; rfl⟩ | exact fun d h => by cases h; rfl | exact Or.inr ⟨rfl, fun d h => by cases h; rfl⟩ | exact Or.inr (fun d h => by cases h; rfl) | exact Or.inl ⟨rfl, fun d h => by cases h; rfl⟩) ?_)))))
      | (with_reducible first | refine lavc_reg ?_ | refine lavc_seq ?_ | refine lavc_block ?_ | refine lavc_skip ?_ | refine lavc_exit ?_ | refine lavc_ret ?_ | refine lavcR_round ?_)
      | (simp only [↓reduceIte, Nat.reduceEqDiff, reduceCtorEq]))
    refine G1 F1 (an ls (an lv (an s1 (an v1 (an ev (an el tt)))))) tt tt tt ⟨?_⟩
    exact ⟨trivial, rfl⟩
theorem roundX (N X : List ByteArray) (p : List ByteArray) (hp : p.length ≠ 2) (hp2 : p.length ≤ 1000) (c : Option Nat) : lavc Tryd.prog glob lcb10 (tB (.vsl p.length (strs p) c)) (HP N X) fun e t H => e = .normal ∧ H = HP N X := by
  unfold tB
  simp only [List.replicate_succ, List.replicate_zero, List.cons_append, List.nil_append]
  unfold lcb10
  have q : (((p.length : Int) : Int) == 2) = false := by rw [beq_eq_false_iff_ne, ne_eq]; omega
  refine G1 F4 (an q tt) tt tt tt ⟨?_⟩
  exact ⟨trivial, trivial⟩
end Go.Abs.S
namespace Go.Proofs.YtgmchiadphdlhaaDoor.Chk
open Go.RowKit Go.Shelf
set_option linter.unusedVariables false
set_option linter.unusedSimpArgs false
attribute [local go_sem] Oper.semAt_some
/-- The k-th part of a slice, two by two. -/
def part (B o n k : Nat) : Value := .slice (some ⟨B, o + 2 * k, none⟩) (min 2 (n - 2 * k)) (min 2 (n - 2 * k))
/-- So many parts. -/
def parts (n : Nat) : Nat := (n + 1) / 2
structure Kr (R : Nat → Prop) (W W' : World) : Prop where
  size : W.heap.size ≤ W'.heap.size
  same : ∀ B, R B → W'.heap[B]? = W.heap[B]?
theorem Kr.refl (R : Nat → Prop) (W : World) : Kr R W W := ⟨Nat.le_refl _, fun _ _ => rfl⟩
theorem Kr.trans {R : Nat → Prop} {A B C : World} (h : Kr R A B) (k : Kr R B C) : Kr R A C := ⟨Nat.le_trans h.size k.size, fun b hb => (k.same b hb).trans (h.same b hb)⟩
theorem Kr.cell {R : Nat → Prop} {W W' : World} (h : Kr R W W') {B o : Nat} (h1 : R B) : W'.cell? ⟨B, o, none⟩ = W.cell? ⟨B, o, none⟩ := World.cell?_of_block (h.same B h1)
set_option maxRecDepth 100000 in
set_option maxHeartbeats 2000000 in
theorem chunk1_in (F : Fence) (m : Nat) (h7 : F.fn 38) (hro : F.round = none) (hn : 1 ≤ m) (R : Nat → Prop) (l B0 o0 B1 o1 B o n cap : Nat) (hreach : n ≤ 1000000) (hcap : n ≤ cap) (r0 : R B0) (r1 : R B1) (J Jx : List Nat → World → Prop) (hA : ∀ s W W', J s W → W.grownBy W' none → J s W')
    (hY : ∀ pre y W, J pre W → pre.length < parts n → YieldAt F (m - 1) Tryd.prog l #[part B o n y] W fun e W' =>
      (e = .returned (.bool true) ∧ J (pre ++ [y]) W' ∧ Kr R W W') ∨ (e = .returned (.bool false) ∧ Jx (pre ++ [y]) W'))
    (W : World) (h0 : W.cell? ⟨B0, o0, none⟩ = some (.slice (some ⟨B, o, none⟩) n cap)) (h1 : W.cell? ⟨B1, o1, none⟩ = some (.int .i64 2)) (hJ : J [] W) :
    CallsIn F m Tryd.prog 38 #[.func (.yield l) #[] #[], .pointer (some ⟨B0, o0, none⟩), .pointer (some ⟨B1, o1, none⟩)] W fun e W' => (∃ v, e = .returned v) ∧
      ((∃ ys, ys = List.range (parts n) ∧ J ys W') ∨ (∃ pre, (∃ k, k ≤ parts n ∧ pre = List.range k) ∧ Jx pre W')) := by
  refine callsIn_of_wp Tryd.func38 rfl h7 ?_ hro
  simp only [Tryd.ntmps38, List.size_toArray, List.length_cons, List.length_nil, Nat.reduceAdd, Nat.reduceSub, Array.replicate_succ, Array.replicate_zero, List.push_toArray, List.append_toArray, List.nil_append, List.cons_append]
  gi_wp2
  gi_loopw [4] (fun i wr => ∃ k : Nat, k ≤ parts n ∧ i = .int .i64 (2 * k : Nat) ∧ J (List.range k) wr ∧ Kr R W wr)
    (fun i _ => n + 2 - (intOf i).toNat)
  case atStart => exact ⟨0, Nat.zero_le _, by simp, hJ, Kr.refl _ _⟩
  case round =>
    obtain ⟨k, hk, rfl, hJs, hnx⟩ := hrel
    have c0 := (hnx.cell r0).trans h0
    have c1 := (hnx.cell r1).trans h1
    by_cases hlt : 2 * k < n
    · have hp : k < parts n := by unfold parts; omega
      have hJd : J (List.range k) wr.drew := hA _ _ _ hJs ⟨rfl, rfl, rfl, Nat.le_refl _, fun _ _ _ => rfl⟩
      obtain ⟨fn, tmps, assign, body, hy, hR⟩ := hY _ k wr.drew hJd (by simpa using hp)
      have hmn : (if ((n - 2 * k : Nat) : Int) < 2 then ((n - 2 * k : Nat) : Int) else 2) = ((min 2 (n - 2 * k) : Nat) : Int) := by split <;> omega
      obtain ⟨e, he⟩ : ∃ e, min 2 (n - 2 * k) = e := ⟨_, rfl⟩
      have he1 : 1 ≤ e ∧ e ≤ 2 ∧ 2 * k + e ≤ n := by omega
      unfold part at hy
      rw [he] at hmn hy
      gi_wp2
      gi_region
      gi_wp2
      all_goals
        refine hR.mono ?_
        rintro e' W3 (⟨rfl, hJ3, hk3⟩ | ⟨rfl, hJx3⟩)
        · have c13 := (hk3.cell r1).trans c1
          gi_wp2
          go_roundw
          case rel =>
            refine ⟨k + 1, by omega, ?_, by rw [List.range_succ]; exact hJ3, hnx.trans ((⟨Nat.le_refl _, fun _ _ => rfl⟩ : Kr R wr wr.drew).trans hk3)⟩
            simp only [Value.int.injEq, true_and]
            omega
          case measure =>
            simp [intOf]
            omega
        · gi_wp2
          refine bodyPost_ret (results_none rfl _ _ _) rfl ?_
          exact ⟨⟨_, rfl⟩, .inr ⟨_, ⟨k + 1, by omega, List.range_succ.symm⟩, hJx3⟩⟩
    · gi_wp2
      go_end0
      obtain rfl : k = parts n := by unfold parts at hk ⊢; omega
      exact ⟨⟨_, rfl⟩, .inl ⟨_, rfl, hJs⟩⟩
set_option maxRecDepth 100000 in
set_option maxHeartbeats 1000000 in
theorem chunk1_none (F : Fence) (m : Nat) (h7 : F.fn 38) (hro : F.round = none) (l B0 o0 : Nat) (p1 : Option Addr) (A : Option Addr) (cap : Nat) (J : List Nat → World → Prop) (W : World) (h0 : W.cell? ⟨B0, o0, none⟩ = some (.slice A 0 cap)) (hJ : J [] W) :
    CallsIn F m Tryd.prog 38 #[.func (.yield l) #[] #[], .pointer (some ⟨B0, o0, none⟩), .pointer p1] W fun e W' => (∃ v, e = .returned v) ∧ J [] W' := by
  refine callsIn_of_wp Tryd.func38 rfl h7 ?_ hro
  simp only [Tryd.ntmps38, List.size_toArray, List.length_cons, List.length_nil, Nat.reduceAdd, Nat.reduceSub, Array.replicate_succ, Array.replicate_zero, List.push_toArray, List.append_toArray, List.nil_append, List.cons_append]
  gi_wp2
  gi_loopw [4] (fun i wr => i = .int .i64 0 ∧ J [] wr ∧ wr.cell? ⟨B0, o0, none⟩ = some (.slice A 0 cap)) (fun _ _ => 0)
  case atStart => exact ⟨rfl, hJ, h0⟩
  case round =>
    obtain ⟨rfl, hJs, hc⟩ := hrel
    gi_wp2
    go_end0
    exact ⟨⟨_, rfl⟩, hJs⟩
/-- What Chunk's iterator hands out. -/
theorem chunk_stops (F : Fence) (m : Nat) (h7 : F.fn 38) (hro : F.round = none) (hn : 1 ≤ m) (R : Nat → Prop) (B0 o0 B1 o1 B o n cap : Nat) (hreach : n ≤ 1000000) (hcap : n ≤ cap) (r0 : R B0) (r1 : R B1) (w : World) (hl0 : B0 < w.heap.size) (hl1 : B1 < w.heap.size)
    (h0 : w.cell? ⟨B0, o0, none⟩ = some (.slice (some ⟨B, o, none⟩) n cap)) (h1 : w.cell? ⟨B1, o1, none⟩ = some (.int .i64 2)) :
    SeqStopsK F m Tryd.prog 38 #[.pointer (some ⟨B0, o0, none⟩), .pointer (some ⟨B1, o1, none⟩)] (fun y : Nat => #[part B o n y]) (Kr R) (fun ys => ys = List.range (parts n)) (fun _ => True) (parts n) w := fun l J Jx W hW hA _ hY hJ => by
  have h0' := (hW.cell (p := ⟨B0, o0, none⟩) hl0).trans h0
  have h1' := (hW.cell (p := ⟨B1, o1, none⟩) hl1).trans h1
  refine (chunk1_in F m h7 hro hn R l B0 o0 B1 o1 B o n cap hreach hcap r0 r1 J Jx (fun s A C hs hg => hA s A C none hs hg (fun r e => by cases e)) hY W h0' h1' hJ).mono ?_
  rintro e W' ⟨he, ⟨ys, rfl, hj⟩ | ⟨pre, _, hj⟩⟩
  · exact ⟨he, .inl ⟨_, rfl, hj⟩⟩
  · exact ⟨he, .inr ⟨_, trivial, hj⟩⟩
theorem chunk_stops0 (F : Fence) (m : Nat) (h7 : F.fn 38) (hro : F.round = none) (R : Nat → Prop) (B0 o0 : Nat) (p1 A : Option Addr) (cap : Nat) (v : Nat → Value) (w : World) (hl0 : B0 < w.heap.size)
    (h0 : w.cell? ⟨B0, o0, none⟩ = some (.slice A 0 cap)) :
    SeqStopsK F m Tryd.prog 38 #[.pointer (some ⟨B0, o0, none⟩), .pointer p1] (fun y : Nat => #[v y]) (Kr R) (fun ys => ys = []) (fun _ => True) 0 w := fun l J Jx W hW _ _ _ hJ => by
  have h0' := (hW.cell (p := ⟨B0, o0, none⟩) hl0).trans h0
  exact (chunk1_none F m h7 hro l B0 o0 p1 A cap J W h0' hJ).mono fun e W' ⟨he, hj⟩ => ⟨he, .inl ⟨_, rfl, hj⟩⟩
end Go.Proofs.YtgmchiadphdlhaaDoor.Chk
namespace Go.Abs.S
open Go.Proofs
open Go.Proofs.YtgmchiadphdlhaaDoor.Chk (part parts Kr)
set_option linter.unusedVariables false
set_option linter.unusedSimpArgs false
set_option maxRecDepth 100000
set_option maxHeartbeats 4000000
theorem NR.strs (N : List ByteArray) : ∀ x ∈ strs N, NR x := fun x hx => by
  obtain ⟨s, _, rfl⟩ := List.mem_map.1 hx
  exact NR.v _
theorem NR.valsX (X : List ByteArray) : ∀ x ∈ vals X, NR x := fun x hx => by
  obtain ⟨s, _, hx⟩ := List.mem_flatMap.1 hx
  simp only [valT, List.mem_cons, List.not_mem_nil, or_false] at hx
  rcases hx with rfl | rfl | rfl | rfl <;> exact NR.v _
/-- Chunk, the maker: both arguments are boxed. -/
theorem chunk_w (a : Option Addr) (len cap : Nat) (w : World) : Calls Tryd.prog 23 #[.slice a len cap, .int .i64 2] w fun e w' =>
    e = .returned (.func (.func 38) #[] #[.pointer (some ⟨w.heap.size, 0, none⟩), .pointer (some ⟨w.heap.size + 1, 0, none⟩)]) ∧ w' = (w.alloc (.cells #[.slice a len cap] 23)).alloc (.cells #[.int .i64 2] 3) := by
  refine (callsIn_wide (n := 3)).1 ?_
  refine callsIn_of_wp Tryd.func23 rfl trivial ?_ rfl
  simp only [Tryd.ntmps23, List.size_toArray, List.length_cons, List.length_nil, Nat.reduceAdd, Nat.reduceSub, Array.replicate_succ, Array.replicate_zero, List.push_toArray, List.append_toArray, List.nil_append, List.cons_append]
  gi_wp2
  go_ret
  exact ⟨rfl, rfl⟩
theorem chunk_p (ss : List ByteArray) (c : Option Nat) : PCall Tryd.prog glob 23 [.vsl ss.length (strs ss) c, ivC 2] (.fn (.func 38) [.vptr [.vsl ss.length (strs ss) c] 0, .vptr [ivC 2] 0]) := by
  intro H
  refine ⟨⟨_, Tryd.func23, by kernel_rfl, by kernel_rfl⟩, fun σ w us hu ha rel => ?_⟩
  obtain ⟨u0, u1, rfl⟩ : ∃ u v, us = #[u, v] := by
    obtain ⟨l⟩ := us
    match l, hu with
    | [u, v], _ => exact ⟨u, v, rfl⟩
  have h0 := ha 0 (by simp)
  have h1 := ha 1 (by simp)
  simp only [List.getD_cons_zero, List.getD_cons_succ] at h0 h1
  have e0 : (#[u0, u1] : Array Value).getD 0 undef = u0 := rfl
  have e1 : (#[u0, u1] : Array Value).getD 1 undef = u1 := rfl
  rw [e0] at h0
  rw [e1] at h1
  cases h1
  obtain ⟨A, len, cap, rfl⟩ : ∃ A l c, u0 = .slice A l c := by
    generalize ss.length = n at h0
    generalize strs ss = cs at h0
    cases h0 <;> exact ⟨_, _, _, rfl⟩
  refine (chunk_w A len cap w).mono ?_
  rintro e W ⟨rfl, rfl⟩
  obtain ⟨r1, x1, m1⟩ := rel.seal #[.slice A len cap] 23 (0, 0)
  obtain ⟨w1, hw1⟩ : ∃ w1, w.alloc (.cells #[.slice A len cap] 23) = w1 := ⟨_, rfl⟩
  have hs1 : w1.heap.size = w.heap.size + 1 := by rw [← hw1]; simp
  have hc1 : w1.cell? ⟨w.heap.size, 0, none⟩ = some (.slice A len cap) := by rw [← hw1]; simp only [World.cell?]; rw [World.alloc_heap_new]; rfl
  rw [hw1] at r1 x1 m1 ⊢
  obtain ⟨r2, x2, m2⟩ := r1.seal #[.int .i64 2] 3 (0, 0)
  refine ⟨_, rfl, _, ?_, r2, x1.trans x2, fun _ => ⟨fun B hB => .same ?_, fun _ _ _ h => .inl h⟩⟩
  · refine .fn _ rfl fun j hj => ?_
    match j, hj with
    | 0, _ =>
      refine AR.vptr (off := 0) w.heap.size 0 (fun _ => .slice A len cap) (.inl (.inr rfl)) (fun j hj => ?_) (fun j hj => ?_)
      · obtain rfl : j = 0 := by simpa using hj
        rw [World.cell?_of_block (RowKit.Below.heap_alloc _ _ _ (show w.heap.size < w1.heap.size by omega))]
        exact hc1
      · obtain rfl : j = 0 := by simpa using hj
        exact m2 _ _ (m1 _ _ h0)
    | 1, _ =>
      show AR _ _ (.vptr [ivC 2] 0) (.pointer (some ⟨w.heap.size + 1, 0, none⟩))
      rw [← hs1]
      refine AR.vptr (off := 0) w1.heap.size 0 (fun _ => .int .i64 2) (Or.inr rfl) (fun j hj => ?_) (fun j hj => ?_)
      · obtain rfl : j = 0 := by simpa using hj
        simp only [World.cell?]
        rw [World.alloc_heap_new]
        rfl
      · obtain rfl : j = 0 := by simpa using hj
        exact .v _
  · rw [RowKit.Below.heap_alloc _ _ _ (show B < w1.heap.size by omega), ← hw1, RowKit.Below.heap_alloc _ _ _ hB]
end Go.Abs.S
namespace Go.Abs.S
attribute [local go_sem] lguard aopO aop aenv toAV tput aLoad aStore vcells aBin aNilI aUn aAlloc aBox aBuild aBSlice afill aConv isIntT aappZ aCap aArr aMM aMake aSlice bnd3 bnd aFldAddr aFld aIdxAddr aIdx aExt aLen aCopy aEq0 bAV aUb aapp aappQ agh acont List.getD_cons_zero List.getD_cons_succ List.set_cons_zero List.set_cons_succ List.getElem?_cons_zero List.getElem?_cons_succ List.length_cons List.length_nil List.map_cons List.map_nil ints_length if_true if_false Bool.false_eq_true true_and and_true eq_self ne_eq not_false_eq_true not_true_eq_false beq_self_eq_true Nat.zero_add Nat.add_zero Nat.mul_one Nat.zero_mul Int.toNat_natCast List.toList_toArray List.all_cons List.all_nil AV.one Value.oneCell' Bool.and_true Bool.true_and forall_const true_implies false_implies implies_true Option.map_some Option.map_none Option.isSome_some Option.isSome_none imp_self rdP_flat rdP_row splice_one ints_set ints_get List.append_nil List.cons_append List.nil_append List.getElem?_toArray List.drop_zero ints_drop ints_take List.take_of_length_le splice_all ints_one Option.some.injEq Option.getD_some List.length_replicate zArr List.map_replicate rep_ints splice_intsR List.length_set List.length_append List.flatten_replicate_singleton rep_slice rep_string rep_bool rep_iface List.replicate_zero if_pos if_neg List.mapM_cons List.mapM_nil Option.pure_def Option.bind_eq_bind Option.bind_some Bool.true_eq_false Bool.not_false Bool.not_true get_concat set_concat
open Go.Proofs
open Go.Proofs.YtgmchiadphdlhaaDoor.Chk (parts Kr chunk_stops chunk_stops0)
set_option linter.unusedVariables false
set_option linter.unusedSimpArgs false
set_option maxRecDepth 100000
set_option maxHeartbeats 4000000
noncomputable def ofC : Code := (Tryd.f10.body).getD .skip
theorem ofC_eq : Tryd.f10.body = some ofC := by kernel_rfl
def sq1 : Code → Code
  | .seq a _ => a
  | c => c
def sq2 : Code → Code
  | .seq _ b => b
  | c => c
def lq1 : LCode → LCode
  | .seq a _ => a
  | c => c
def lrg : LCode → List LOp
  | .reg _ post => post
  | _ => []
def lq2 : LCode → LCode
  | .seq _ b => b
  | c => c
def rfB (c : Code) : Code := match rfOf c with
  | some x => x.2.2.2
  | none => .skip
def rfA (c : Code) : Code := match rfOf c with
  | some x => x.2.2.1
  | none => .skip
def opsOf : Code → Array Oper
  | .region _ ops _ => ops
  | _ => #[]
theorem ofC_shape : ofC = .seq (sq1 ofC) (.seq (sq1 (sq2 ofC)) (.seq (.seq (sq1 (sq1 (sq2 (sq2 ofC)))) (.block 0 (.rangeFunc (.tmp 7) #[8] (rfA ofC) (rfB ofC)))) (.seq (sq1 (sq2 (sq2 (sq2 ofC)))) .ret))) := by kernel_rfl
theorem rfA_shape : rfA ofC = .region 3 #[(opsOf (rfA ofC))[0]!] false := by kernel_rfl
theorem rfA_op : (opsOf (rfA ofC))[0]!.op = .assign (.tmp 8) := by kernel_rfl
theorem rfA_dst : (opsOf (rfA ofC))[0]!.dst = some 4 := by kernel_rfl
theorem rfA_guard : (opsOf (rfA ofC))[0]!.guard = none := by kernel_rfl
theorem of_s0 : strip Tryd.prog impCodC (sq1 ofC) = lq1 lc10 := by kernel_rfl
theorem of_s1 : strip Tryd.prog impCodC (sq1 (sq2 ofC)) = lq1 (lq2 lc10) := by kernel_rfl
theorem of_s2 : strip Tryd.prog impCodC (sq1 (sq1 (sq2 (sq2 ofC)))) = lq1 (lq1 (lq2 (lq2 lc10))) := by kernel_rfl
theorem of_s6 : strip Tryd.prog impCodC (sq1 (sq2 (sq2 (sq2 ofC)))) = lq1 (lq2 (lq2 (lq2 lc10))) := by kernel_rfl
theorem of_d6 : sq1 (sq2 (sq2 (sq2 ofC))) = .region 6 (opsOf (sq1 (sq2 (sq2 (sq2 ofC))))) false := by kernel_rfl
theorem of_sb : strip Tryd.prog impCodF (rfB ofC) = lcb10 := by kernel_rfl
/-- The pairs' first and second ones. -/
def pick (ss : List ByteArray) (d : Nat) (pre : List Nat) : List ByteArray := pre.filterMap fun k => if 2 * k + 2 ≤ ss.length then some (ss.getD (2 * k + d) ⟨#[]⟩) else none
def nms (ss : List ByteArray) : List ByteArray := pick ss 0 (List.range (parts ss.length))
def txs (ss : List ByteArray) : List ByteArray := pick ss 1 (List.range (parts ss.length))
theorem pick_snoc (ss : List ByteArray) (d : Nat) (pre : List Nat) (k : Nat) : pick ss d (pre ++ [k]) = if 2 * k + 2 ≤ ss.length then pick ss d pre ++ [ss.getD (2 * k + d) ⟨#[]⟩] else pick ss d pre := by
  unfold pick
  rw [List.filterMap_append]
  by_cases h : 2 * k + 2 ≤ ss.length
  · rw [if_pos h]
    simp [h]
  · rw [if_neg h]
    simp [h]
theorem pick_len (ss : List ByteArray) (d e : Nat) (pre : List Nat) : (pick ss d pre).length = (pick ss e pre).length := by
  induction pre with
  | nil => rfl
  | cons k pre ih =>
    unfold pick at ih ⊢
    rw [List.filterMap_cons, List.filterMap_cons]
    by_cases h : 2 * k + 2 ≤ ss.length
    · rw [if_pos h, if_pos h, List.length_cons, List.length_cons, ih]
    · rw [if_neg h, if_neg h]
      exact ih
theorem pick_le (ss : List ByteArray) (d : Nat) (pre : List Nat) : (pick ss d pre).length ≤ pre.length := List.length_filterMap_le _ _
/-- A page of texts. -/
def pageA (N X : List ByteArray) : AV := .agg [ivC 6, stA ⟨#[]⟩, .vsl N.length (strs N) none, .vsl N.length (vals X) none]
theorem NR.pageA (N X : List ByteArray) : NR (pageA N X) := NR.agg (by
  intro x hx
  simp only [List.mem_cons, List.not_mem_nil, or_false] at hx
  rcases hx with rfl | rfl | rfl | rfl
  · exact NR.v _
  · exact NR.v _
  · exact NR.vsl (NR.strs _)
  · exact NR.vsl (NR.valsX _))
/-- A round, whatever the part. -/
theorem round_any (ss : List ByteArray) (hs : ss.length ≤ 1000) (pre : List Nat) (hp : pre.length ≤ 1000) (k : Nat) (c : Option Nat) :
    lavc Tryd.prog glob lcb10 (tB (.vsl (min 2 (ss.length - 2 * k)) (strs ((ss.drop (2 * k)).take 2)) c)) (HP (pick ss 0 pre) (pick ss 1 pre)) fun e t H => e = .normal ∧ H = HP (pick ss 0 (pre ++ [k])) (pick ss 1 (pre ++ [k])) := by
  have hl : ((ss.drop (2 * k)).take 2).length = min 2 (ss.length - 2 * k) := by rw [List.length_take, List.length_drop]
  rw [pick_snoc, pick_snoc]
  by_cases h : 2 * k + 2 ≤ ss.length
  · rw [if_pos h, if_pos h]
    have e2 : (ss.drop (2 * k)).take 2 = [ss.getD (2 * k + 0) ⟨#[]⟩, ss.getD (2 * k + 1) ⟨#[]⟩] := by
      rw [List.drop_eq_getElem_cons (by omega), List.drop_eq_getElem_cons (by omega)]
      simp only [List.take_succ_cons, List.take_zero, List.getD_eq_getElem?_getD, Nat.add_zero]
      rw [List.getElem?_eq_getElem (by omega), List.getElem?_eq_getElem (by omega)]
      rfl
    rw [e2, show min 2 (ss.length - 2 * k) = 2 from by omega]
    by_cases h0 : pick ss 0 pre = []
    · have h1 : pick ss 1 pre = [] := List.eq_nil_of_length_eq_zero (by rw [pick_len ss 1 0, h0]; rfl)
      rw [h0, h1]
      exact round0 _ _ c
    · exact round1 _ _ h0 (pick_len ss 1 0 pre) (Nat.le_trans (pick_le ss 0 pre) hp) _ _ c
  · rw [if_neg h, if_neg h, ← hl]
    exact roundX _ _ _ (by omega) (by omega) c
/-- What the k-th part holds. -/
theorem part_ar {σ : Sig} {w : World} {ss : List ByteArray} {B o : Nat} {u : Nat → Value} (hr : σ.ro B) (hm : ∀ j, j < (strs ss).length → w.cell? ⟨B, o + j, none⟩ = some (u j)) (ha : ∀ j, j < (strs ss).length → AR σ w ((strs ss).getD j .any) (u j)) (k : Nat) :
    AR σ w (.vsl (min 2 (ss.length - 2 * k)) (strs ((ss.drop (2 * k)).take 2)) none) (Go.Proofs.YtgmchiadphdlhaaDoor.Chk.part B o ss.length k) := by
  have hl : (strs ((ss.drop (2 * k)).take 2)).length = min 2 (ss.length - 2 * k) := by rw [strs_length, List.length_take, List.length_drop]
  have hs := strs_length ss
  unfold Go.Proofs.YtgmchiadphdlhaaDoor.Chk.part
  refine .vsl B (o + 2 * k) _ (fun j => u (2 * k + j)) hr (fun j hj => ?_) (fun j hj => ?_) (Nat.le_refl _) (fun c h => by cases h)
  · rw [Nat.add_assoc]
    exact hm _ (by omega)
  · have := ha (2 * k + j) (by omega)
    have e : (strs ((ss.drop (2 * k)).take 2)).getD j .any = (strs ss).getD (2 * k + j) .any := by
      have e1 : strs ((ss.drop (2 * k)).take 2) = ((strs ss).drop (2 * k)).take 2 := by simp [strs, List.map_take, List.map_drop]
      rw [e1, List.getD_eq_getElem?_getD, List.getD_eq_getElem?_getD, List.getElem?_take, if_pos (by omega), List.getElem?_drop]
    rw [e]
    exact this
/-- How far a page is. -/
def IOf (ss : List ByteArray) (σ0 : Sig) (w0 : World) (pre : List Nat) (W : World) : Prop := pre.length ≤ 1000 ∧ ∃ σ', Rel glob σ' (HP (pick ss 0 pre) (pick ss 1 pre)) W ∧ Ext σ0 (HP [] []) w0 σ' (HP (pick ss 0 pre) (pick ss 1 pre)) W
theorem of_end (N X : List ByteArray) (hX : X.length = N.length) (t : List AV) (h2 : t.getD 2 .any = .ptr 0 0 0) (h3 : t.getD 3 .any = .ptr 1 0 0) (hl : t.length = 30) :
    lops Tryd.prog glob false (lrg (lq1 (lq2 (lq2 (lq2 lc10))))) t (HP N X) fun t H => aret Tryd.prog t H [.cell 2 26] fun r => Fin 0 H r (pageA N X) [] := by
  match t, hl with
  | [a0, a1, a2, a3, a4, a5, a6, a7, a8, a9, b0, b1, b2, b3, b4, b5, b6, b7, b8, b9, c0, c1, c2, c3, c4, c5, c6, c7, c8, c9], _ =>
    simp only [List.getD_cons_succ, List.getD_cons_zero] at h2 h3
    subst h2 h3
    simp only [lc10, lq1, lq2, lrg]
    unfold HP
    by_cases h0 : N = []
    · subst h0
      obtain rfl : X = [] := List.eq_nil_of_length_eq_zero hX
      rw [if_pos rfl]
      refine G1 F4 tt tt tt tt ⟨?_⟩
      simp (disch := first | exact dch | fail) only [go_sem, Nat.reduceAdd, Nat.reduceSub, reduceIte, Nat.reduceEqDiff, Int.reduceToNat, Int.reduceBEq, Int.reduceBNe, aenv, aret, aretL, aret1]
      exact ⟨Nat.le_refl _, .agg rfl (fun j hj => (match j, hj with
        | 0, _ => .nr (NR.v _)
        | 1, _ => .nr (NR.v _)
        | 2, _ => .nil
        | 3, _ => .nil)), Nat.zero_le _, fun b k hb => absurd hb (Nat.not_lt_zero _), rfl⟩
    · rw [if_neg h0]
      have ls := strs_length N
      have lv := vals_length X
      refine G1 F4 tt tt tt tt ⟨?_⟩
      simp (disch := first | exact dch | fail) only [go_sem, Nat.reduceAdd, Nat.reduceSub, reduceIte, Nat.reduceEqDiff, Int.reduceToNat, Int.reduceBEq, Int.reduceBNe, aenv, aret, aretL, aret1]
      refine ⟨Nat.le_refl _, .agg rfl (fun j hj => (match j, hj with
        | 0, _ => .nr (NR.v _)
        | 1, _ => .nr (NR.v _)
        | 2, _ => ?_
        | 3, _ => ?_)), Nat.zero_le _, fun b k hb => absurd hb (Nat.not_lt_zero _), rfl⟩
      · have e : ((strs N).drop 0).take (N.length * 1) = strs N := by rw [List.drop_zero]; exact List.take_of_length_le (by omega)
        show View 0 _ (.sl 2 (N.length - 1) 0 N.length N.length 1 false) (.vsl N.length (strs N) none)
        rw [show AV.vsl N.length (strs N) none = AV.vsl N.length (((strs N).drop 0).take (N.length * 1)) none from by rw [e]]
        exact View.sl (k := ⟨strs N, N.length - 1, true, 9⟩) (Nat.zero_le _) rfl rfl rfl (Nat.le_refl _) (by show 0 + N.length * 1 ≤ (strs N).length; omega) (NR.strs N)
      · have e : ((vals X).drop 0).take (N.length * 4) = vals X := by rw [List.drop_zero]; exact List.take_of_length_le (by omega)
        show View 0 _ (.sl 3 (N.length - 1) 0 N.length N.length 4 false) (.vsl N.length (vals X) none)
        rw [show AV.vsl N.length (vals X) none = AV.vsl N.length (((vals X).drop 0).take (N.length * 4)) none from by rw [e]]
        exact View.sl (k := ⟨vals X, N.length - 1, true, 26⟩) (Nat.zero_le _) rfl rfl rfl (Nat.le_refl _) (by show 0 + N.length * 4 ≤ (vals X).length; omega) (NR.valsX X)
theorem of_begin (ss : List ByteArray) (c : Option Nat) : lavc Tryd.prog glob (lq1 lc10) ([.vsl ss.length (strs ss) c] ++ List.replicate 29 (.v undef)) [] fun e t H => e = .normal ∧ lavc Tryd.prog glob (lq1 (lq2 lc10)) t H fun e t H => e = .normal ∧ lavc Tryd.prog glob (lq1 (lq1 (lq2 (lq2 lc10)))) t H fun e t H =>
    e = .normal ∧ H = HP [] [] ∧ t.getD 2 .any = .ptr 0 0 0 ∧ t.getD 3 .any = .ptr 1 0 0 ∧ t.getD 7 .any = .fn (.func 38) [.vptr [.vsl ss.length (strs ss) c] 0, .vptr [ivC 2] 0] ∧ t.length = 30 := by
  simp only [lc10, lq1, lq2, List.replicate_succ, List.replicate_zero, List.cons_append, List.nil_append]
  have cp := chunk_p ss c
  refine G1 F4 tt tt tt tt ⟨?_⟩
  refine ⟨trivial, ?_⟩
  refine G1 F4 tt tt tt tt ⟨?_⟩
  refine ⟨trivial, ?_⟩
  refine G1 F4 tt (an cp.go tt) tt tt ⟨?_⟩
  exact ⟨trivial, by unfold HP; rw [if_pos rfl], rfl, rfl, rfl, rfl⟩
/-- The rounds' act. -/
def actA (a : Act) (v : Value) : Act := ({ tmps := a.tmps.setIfInBounds 8 v, defers := [] } : Act).put (some 4) (({ tmps := a.tmps.setIfInBounds 8 v, defers := [] } : Act).eval (.tmp 8))
theorem actA_get (a : Act) (v : Value) (h : a.tmps.size = 30) (j : Nat) (hj : j < 30) : (actA a v).tmps.getD j undef = if j = 4 ∨ j = 8 then v else a.tmps.getD j undef := by
  have hs : (a.tmps.setIfInBounds 8 v).size = 30 := by simp [h]
  have e8 : ({ tmps := a.tmps.setIfInBounds 8 v, defers := [] } : Act).eval (.tmp 8) = v := by
    show (a.tmps.setIfInBounds 8 v).getD 8 undef = v
    rw [Array.getD_eq_getD_getElem?, Array.getElem?_setIfInBounds]
    simp [h]
  unfold actA
  rw [e8, put_getD _ _ _ _ (by show j < (a.tmps.setIfInBounds 8 v).size; omega)]
  by_cases h4 : j = 4
  · subst h4
    simp
  · rw [if_neg (by intro e; cases e; exact h4 rfl)]
    show (a.tmps.setIfInBounds 8 v).getD j undef = _
    rw [Array.getD_eq_getD_getElem?, Array.getElem?_setIfInBounds, Array.getD_eq_getD_getElem?]
    by_cases h8 : j = 8
    · subst h8
      simp [h]
    · rw [if_neg (by omega), if_neg (by omega)]
theorem assign_in {l : Nat} {m : Nat} {a : Act} {v : Value} {W : World} {K : Act → World → Prop} (hK : K (actA a v) W) :
    (rfA ofC).wpIn (Fence.wide.inRound l) m Tryd.prog (Exit.then K (fun _ _ _ => False)) { tmps := a.tmps.setIfInBounds 8 v, defers := [] } W := by
  rw [rfA_shape]
  have hd : ∀ c, (opsOf (rfA ofC))[0]!.op ≠ .defer c := fun c => by rw [rfA_op]; simp
  have ho := rfA_op
  have hds := rfA_dst
  have hg := rfA_guard
  generalize (opsOf (rfA ofC))[0]! = o at *
  refine wpIn_region_list ?_
  show wpListIn _ _ _ _ _ [o] _ _
  unfold wpListIn
  have hw : Region.wanted o (yielded #[o] ({ tmps := a.tmps.setIfInBounds 8 v, defers := [] } : Act).tmps) = true := by simp [Region.wanted, hg]
  rw [if_pos hw]
  refine op_in (ro := some l) hd ?_
  unfold Oper.wp
  have hr : (execOp ({ tmps := a.tmps.setIfInBounds 8 v, defers := [] } : Act).eval o).run Tryd.prog W = .ok (.value (({ tmps := a.tmps.setIfInBounds 8 v, defers := [] } : Act).eval (.tmp 8))) W := by
    unfold execOp
    rw [ho]
    rfl
  rw [hr, Oper.upon_value, hds]
  exact hK
/-- page.Of. -/
theorem pageOf_p (ss : List ByteArray) (c : Option Nat) (hs : ss.length ≤ 1000) : PCall Tryd.prog glob 10 [.vsl ss.length (strs ss) c] (pageA (nms ss) (txs ss)) := by
  refine PCall.of ctx.nr (List.forall_mem_cons.2 ⟨NR.vsl (NR.strs _), fun _ h => absurd h List.not_mem_nil⟩) (NR.pageA _ _) ?_
  refine ⟨⟨_, Tryd.func10, by kernel_rfl, by kernel_rfl⟩, fun σ w us hu ha rel => ?_⟩
  refine (callsIn_wide (n := 3)).1 ?_
  refine callsIn_of_wp_marks Tryd.func10 ofC_eq trivial ?_ rfl
  have hnt : Tryd.f10.ntmps = 30 := by kernel_rfl
  have hres : Tryd.f10.results.toList = [.cell 2 26] := by kernel_rfl
  rw [hnt]
  obtain ⟨a0, ha0⟩ : ∃ a0 : Act, a0 = { tmps := us ++ Array.replicate (30 - us.size) undef, defers := [] } := ⟨_, rfl⟩
  have s0 : Sim glob σ ([.vsl ss.length (strs ss) c] ++ List.replicate 29 (.v undef)) [] a0 w := by
    rw [ha0]
    refine ⟨rfl, by simp [hu], fun j hj => ?_, rel⟩
    simp only [List.length_append, List.length_replicate] at hj
    by_cases hja : j < 1
    · obtain rfl : j = 0 := by omega
      have := ha 0 (by simp)
      simpa [List.getD_eq_getElem?_getD, List.getElem?_append, Array.getElem?_append, hu] using this
    · have e1 : ([AV.vsl ss.length (strs ss) c] ++ List.replicate 29 (AV.v undef)).getD j .any = .v undef := by
        rw [List.getD_eq_getElem?_getD, List.getElem?_append_right (by simpa using (by omega : 1 ≤ j)), List.getElem?_replicate, if_pos (by simp at hj ⊢; omega)]
        rfl
      have e2 : (us ++ Array.replicate (30 - us.size) undef).getD j undef = undef := by
        have hus : us.size = 1 := hu
        rw [Array.getD_eq_getD_getElem?, Array.getElem?_append, if_neg (by omega), Array.getElem?_replicate, if_pos (by simp at hj; omega)]
        rfl
      rw [e1]
      show AR σ w (.v undef) ((us ++ Array.replicate (30 - us.size) undef).getD j undef)
      rw [e2]
      exact .v _
  rw [← ha0]
  clear ha0
  rw [ofC_shape]
  refine wpIn_seq (Code.wpIn_mono (fun e a w1 hq => ?_) (of_begin ss c impCodC _ of_s0 ctx.mix none 3 σ [] w σ a0 w s0 (Ext.refl _ _ _)))
  obtain ⟨t1, H1, σ1, ⟨rfl, k1⟩, s1, x1⟩ := hq
  refine wpIn_seq (Code.wpIn_mono (fun e a w2 hq => ?_) (k1 impCodC _ of_s1 ctx.mix none 3 σ [] w σ1 a w1 s1 x1))
  obtain ⟨t2, H2, σ2, ⟨rfl, k2⟩, s2, x2⟩ := hq
  refine wpIn_seq (wpIn_seq (Code.wpIn_mono (fun e a w3 hq => ?_) (k2 impCodC _ of_s2 ctx.mix none 3 σ [] w σ2 a w2 s2 x2)))
  obtain ⟨t3, H3, σ3, ⟨rfl, rfl, q2, q3, q7, ql⟩, s3, x3⟩ := hq
  clear k1 k2 s1 s2 x1 x2
  refine wpIn_block ?_
  have hsz : a.tmps.size = 30 := s3.size.trans ql
  -- the iterator
  have hfv := s3.tmps 7 (by omega)
  rw [q7] at hfv
  have hev : a.eval (.tmp 7) = a.tmps.getD 7 undef := rfl
  generalize a.tmps.getD 7 undef = uf at hfv hev
  cases hfv with
  | fn lb hl ha' =>
  have g0 := ha' 0 (by simp)
  have g1 := ha' 1 (by simp)
  simp only [List.getD_cons_zero, List.getD_cons_succ] at g0 g1
  obtain ⟨p0, p1, rfl⟩ : ∃ u v, lb = #[u, v] := by
    obtain ⟨l⟩ := lb
    match l, hl with
    | [u, v], _ => exact ⟨u, v, rfl⟩
  have e0 : (#[p0, p1] : Array Value).getD 0 undef = p0 := rfl
  have e1 : (#[p0, p1] : Array Value).getD 1 undef = p1 := rfl
  rw [e0] at g0
  rw [e1] at g1
  cases g0 with
  | vptr B0 o0 u0 r0 hm0 har0 =>
  cases g1 with
  | vptr B1 o1 u1 r1 hm1 har1 =>
  have c0 := hm0 0 (by simp)
  have c1 := hm1 0 (by simp)
  have v0 := har0 0 (by simp)
  have v1 := har1 0 (by simp)
  simp only [List.getD_cons_zero, Nat.add_zero] at c0 c1 v0 v1
  have hu1 : u1 0 = .int .i64 2 := by
    generalize u1 0 = y at v1
    cases v1
    rfl
  rw [hu1] at c1
  have rel3 := s3.rel
  have lt0 := rel3.roLt _ r0
  have lt1 := rel3.roLt _ r1
  have key : ∃ pv : Nat → Value, (∀ k, AR σ3 w3 (.vsl (min 2 (ss.length - 2 * k)) (strs ((ss.drop (2 * k)).take 2)) none) (pv k)) ∧
      SeqStopsK Fence.wide 2 Tryd.prog 38 #[.pointer (some ⟨B0, o0, none⟩), .pointer (some ⟨B1, o1, none⟩)] (fun y : Nat => #[pv y]) (Kr σ3.ro) (fun ys => ys = List.range (parts ss.length)) (fun _ => True) (parts ss.length) w3 := by
    generalize u0 0 = y at v0 c0
    have hsl := strs_length ss
    generalize hn : ss.length = n at v0
    generalize hcs : strs ss = cs at v0
    cases v0 with
    | vsl B o cap uu hr hm har hle hx =>
      subst hcs hn
      exact ⟨_, part_ar hr hm har, chunk_stops Fence.wide 2 trivial rfl (by decide) σ3.ro B0 o0 B1 o1 B o ss.length cap (by omega) hle r0 r1 w3 lt0 lt1 c0 c1⟩
    | vsl0 A cap hx =>
      obtain rfl : ss = [] := List.eq_nil_of_length_eq_zero hn
      refine ⟨fun _ => .slice none 0 0, fun k => ?_, ?_⟩
      · have : (strs ((([] : List ByteArray).drop (2 * k)).take 2)) = [] := by simp [strs]
        rw [this]
        show AR σ3 w3 (.vsl (min 2 (0 - 2 * k)) [] none) _
        rw [Nat.zero_sub, Nat.min_zero]
        exact .vsl0 none 0 (fun c h => by cases h)
      · exact chunk_stops0 Fence.wide 2 trivial rfl σ3.ro B0 o0 _ A cap _ w3 lt0 c0
  obtain ⟨pv, hpv, hseq⟩ := key
  refine wpIn_rangeFunc_ownF (F := Fence.wide) rfl (by decide) (gf := 38) hev trivial (enters_of Tryd.func38 (by kernel_rfl) rfl) hseq (fun h k => h.trans k)
    (fun W l o o' hl ho hoc hw => ⟨(Go.grownBy_putObj' W l o').size, fun B hB => (Go.grownBy_putObj' W l o').block B (by have := rel3.roLt B hB; have := (Array.getElem?_eq_some_iff.1 ho).1; omega) (fun e => by have := rel3.roLt B hB; cases e; omega)⟩)
    (RowKit.Below.refl _ _) (fun _ => rfl) (IOf ss σ3 w3) (fun _ _ _ => False)
    (fun s W W' row ⟨hl, σ', r, x⟩ hg hr => ⟨hl, σ', (r.grow hg (fun k e => (hr k e).2)).1, x.grow hg (fun k e => (hr k e).1)⟩)
    (fun _ _ _ _ _ h _ _ => h) ⟨by simp, σ3, rel3, Ext.refl _ _ _⟩ (fun k => actA a (pv k)) ?assign ?body ?done ?stop
  case assign =>
    intro l x W K hK
    have h := assign_in (l := l) (m := 3 - 1 - 1) (v := pv x) hK
    simpa using h
  case body =>
    rintro l pre x W ⟨hpl, σ', r, xt⟩ hlen
    have lv := round_any ss hs pre hpl x none
    have hmv : ∀ y u, AR σ3 w3 y u → AR σ' W y u := fun y u h => h.ext rel3 xt
    have s : Sim glob σ' (tB (.vsl (min 2 (ss.length - 2 * x)) (strs ((ss.drop (2 * x)).take 2)) none)) (HP (pick ss 0 pre) (pick ss 1 pre)) (actA a (pv x)) W := by
      refine ⟨rfl, ?_, fun j hj => ?_, r⟩
      · rw [actA, Act.put_size]
        simp [tB, hsz]
      · have hj : j < 30 := by simpa [tB] using hj
        rw [actA_get a (pv x) hsz j hj]
        by_cases h3 : j = 3
        · subst h3
          have := hmv _ _ (s3.tmps 3 (by omega))
          rw [q3] at this
          exact this
        · by_cases h4 : j = 4
          · subst h4
            exact hmv _ _ (hpv x)
          · have : (tB (.vsl (min 2 (ss.length - 2 * x)) (strs ((ss.drop (2 * x)).take 2)) none)).getD j .any = .any := by
              have : j = 0 ∨ j = 1 ∨ j = 2 ∨ 5 ≤ j := by omega
              rcases this with rfl | rfl | rfl | h5
              · rfl
              · rfl
              · rfl
              · unfold tB
                rw [List.getD_eq_getElem?_getD, List.getElem?_append_right (by simpa using h5), List.getElem?_replicate]
                split <;> rfl
            rw [this]
            exact .any _
    refine Code.wpIn_mono ?_ (lv impCodF _ of_sb ctx.mix (some l) (3 - 1 - 1) σ' _ W σ' _ W s (Ext.refl _ _ _))
    rintro e a' W' ⟨t', H', σ'', ⟨rfl, rfl⟩, s', x'⟩
    refine ⟨x'.keeps r, ⟨x'.size, fun B hB => r.roKept x' B (xt.ro B hB)⟩, ?_, σ'', s'.rel, xt.trans x'⟩
    have : parts ss.length ≤ 501 := by unfold Go.Proofs.YtgmchiadphdlhaaDoor.Chk.parts; omega
    simp only [List.length_append, List.length_singleton]
    omega
  case done =>
    rintro D xs W hD rfl ⟨_, σ', r, xt⟩ hdf
    show (Code.seq (sq1 (sq2 (sq2 (sq2 ofC)))) .ret).wpIn _ _ _ _ _ _
    have s4 : Sim glob σ' t3 (HP (nms ss) (txs ss)) a W := ⟨s3.defers, s3.size, fun j hj => (s3.tmps j hj).ext rel3 xt, r⟩
    have le := of_end (nms ss) (txs ss) (pick_len ss 1 0 _) t3 q2 q3 ql
    obtain ⟨id, ops, draw, hc, hdn, hf, _⟩ := strip_reg (show strip Tryd.prog impCodC (sq1 (sq2 (sq2 (sq2 ofC)))) = .reg [] (lrg (lq1 (lq2 (lq2 (lq2 lc10))))) from of_s6)
    have hdr : draw = false := by
      have := of_d6
      rw [hc] at this
      cases this
      rfl
    subst hdr
    obtain ⟨_, hL⟩ := hf rfl
    rw [hL] at le
    rw [s3.defers]
    refine wpIn_seq ?_
    rw [hc]
    have hwl := lops_list (l := ops.toList) (Q := nrm fun e a' w' => e = .normal ∧ a'.defers = [] ∧ ∃ t' H' σ'', aret Tryd.prog t' H' [.cell 2 26] (fun r => Fin 0 H' r (pageA (nms ss) (txs ss)) []) ∧ Sim glob σ'' t' H' a' w' ∧ Ext σ' (HP (nms ss) (txs ss)) W σ'' H' w') le σ' a W s4 (fun t' H' σ'' a' w' k1 k2 k3 => ⟨rfl, rfl, k2.defers, t', H', σ'', k1, k2, k3⟩)
    have hwd := wpList_def [{ target := .collected D, args := #[] }] (fun a' w' h => h.2.1) hwl
    refine Code.wpIn_mono ?_ (region_list (ro := none) (n := 3) hdn hwd)
    rintro e a' W2 ⟨a1, ⟨rfl, hd1, t', H', σ'', k1, k2, k3⟩, rfl⟩
    refine wpIn_ret ?_
    have hdf2 : W2.heap[D]? = some (.deferred (some [])) := (k3.keeps r).same D _ hdf rfl
    have hgr := Go.grownBy_putObj' W2 D (.deferred none)
    obtain ⟨r2, m2⟩ := k2.rel.grow hgr (fun k e => by cases e; exact ⟨_, hdf2, rfl⟩)
    have x2 : Ext σ [] w σ'' H' (W2.putObj D (.deferred none)) := (x3.trans (xt.trans k3)).grow hgr (fun k e => by cases e; exact Nat.le_trans x3.size hD)
    have s5 : Sim glob σ'' t' H' a1 (W2.putObj D (.deferred none)) := ⟨hd1, k2.size, fun j hj => m2 _ _ (k2.tmps j hj), r2⟩
    rw [← hres] at k1
    obtain ⟨rr, u, ⟨hv, hl2, hn, hh⟩, hrun, hru⟩ := aret_ok s5 k1
    refine ⟨by simp, .inl ⟨D, _, rfl, Go.run_takeDeferred hdf2, ?_⟩⟩
    refine ⟨u, hrun, u, rfl, ?_⟩
    have hcut := Res.cut ctx.nr rel r2 x2 (Nat.le_refl _) hl2 hv hru hn
    exact hcut
  case stop =>
    rintro D c pre W _ _ h _
    exact h.elim
end Go.Abs.S
namespace Go.Abs.S
attribute [local go_sem] lguard aopO aop aenv toAV tput aLoad aStore vcells aBin aNilI aUn aAlloc aBox aBuild aBSlice afill aConv isIntT aappZ aCap aArr aMM aMake aSlice bnd3 bnd aFldAddr aFld aIdxAddr aIdx aExt aLen aCopy aEq0 bAV aUb aapp aappQ agh acont List.getD_cons_zero List.getD_cons_succ List.set_cons_zero List.set_cons_succ List.getElem?_cons_zero List.getElem?_cons_succ List.length_cons List.length_nil List.map_cons List.map_nil ints_length if_true if_false Bool.false_eq_true true_and and_true eq_self ne_eq not_false_eq_true not_true_eq_false beq_self_eq_true Nat.zero_add Nat.add_zero Nat.mul_one Nat.zero_mul Int.toNat_natCast List.toList_toArray List.all_cons List.all_nil AV.one Value.oneCell' Bool.and_true Bool.true_and forall_const true_implies false_implies implies_true Option.map_some Option.map_none Option.isSome_some Option.isSome_none imp_self rdP_flat rdP_row splice_one ints_set ints_get List.append_nil List.cons_append List.nil_append List.getElem?_toArray List.drop_zero ints_drop ints_take List.take_of_length_le splice_all ints_one Option.some.injEq Option.getD_some List.length_replicate zArr List.map_replicate rep_ints splice_intsR List.length_set List.length_append List.flatten_replicate_singleton rep_slice rep_string rep_bool rep_iface List.replicate_zero if_pos if_neg List.mapM_cons List.mapM_nil Option.pure_def Option.bind_eq_bind Option.bind_some Bool.true_eq_false Bool.not_false Bool.not_true get_concat set_concat
open Go.Proofs
set_option linter.unusedVariables false
set_option linter.unusedSimpArgs false
set_option maxRecDepth 100000
set_option maxHeartbeats 4000000
theorem strs_at (l : List ByteArray) (k : Nat) (h : k < l.length) : (strs l).getD k .any = stA (l.getD k ⟨#[]⟩) := by
  simp [strs, List.getD_eq_getElem?_getD, h]
theorem stA_beq (a b : ByteArray) : (a.toList == b.toList) = decide (a = b) := by
  rw [Bool.eq_iff_iff, beq_iff_eq, decide_eq_true_eq]
  refine ⟨fun h => ?_, fun h => by rw [h]⟩
  rw [ByteArray.toList_eq, ByteArray.toList_eq] at h
  cases a; cases b
  congr 1
  exact Array.toList_inj.1 h
/-- The place of a text in a row. -/
def idxK : List ByteArray → ByteArray → Nat → Int
  | [], _, _ => -1
  | a :: l, x, k => if x = a then (k : Int) else idxK l x (k + 1)
theorem idxK_step (l : List ByteArray) (x : ByteArray) (k : Nat) (h : k < l.length) : idxK (l.drop k) x k = if x = l.getD k ⟨#[]⟩ then (k : Int) else idxK (l.drop (k + 1)) x (k + 1) := by
  rw [List.drop_eq_getElem_cons h, idxK, List.getD_eq_getElem?_getD, List.getElem?_eq_getElem h]
  rfl
theorem index_p (l : List ByteArray) (c : Option Nat) (x : ByteArray) (hl : l.length ≤ 1000) : PCall Tryd.prog glob 58 [.vsl l.length (strs l) c, stA x] (ivC (idxK l x 0)) := by
  refine PCall.of ctx.nr (List.forall_mem_cons.2 ⟨NR.vsl (NR.strs _), List.forall_mem_cons.2 ⟨NR.v _, fun _ h => absurd h List.not_mem_nil⟩⟩) (NR.v _) ?_
  refine lcall58 (by simp) 0 (Nat.le_refl _) ?_
  unfold lc58
  refine I1 tt ⟨?_⟩
  have hs := strs_length l
  obtain ⟨V, hV⟩ : ∃ V, idxK l x 0 = V := ⟨_, rfl⟩
  rw [hV]
  refine G1 F4 tt tt tt tt ⟨?_⟩
  refine lavc_loopM ms58_0 (fun m (k : Nat) => m + k = l.length ∧ idxK (l.drop k) x k = V) (fun k => [(8, ivC k)]) (fun _ => []) l.length 0 ⟨by omega, by rw [List.drop_zero]; exact hV⟩ ?_ rfl ?_
  · try unfold ms58_0
    refine A1 tt ⟨?_⟩
    rfl
  rintro m k ⟨hk, hi⟩
  try unfold ms58_0
  refine M1 tt ⟨?_⟩
  refine G1 F1 tt tt tt tt ⟨?_⟩
  refine cnd rfl (fun hc => ?_) (fun hc => ?_)
  · have hkl : k < l.length := by omega
    have hat := strs_at l k hkl
    rw [idxK_step l x k hkl] at hi
    have e3 := i64n ((k : Int) + 1) (k + 1) (by omega) (by omega)
    obtain ⟨y, hy⟩ : ∃ y, l.getD k ⟨#[]⟩ = y := ⟨_, rfl⟩
    rw [hy] at hat hi
    by_cases hx : x = y
    · rw [if_pos hx] at hi
      have q : (x.toList == y.toList) = true := by rw [stA_beq]; exact decide_eq_true hx
      refine G1 F4 (an hat (an q tt)) tt tt tt ⟨?_⟩
      refine R1 tt ⟨?_⟩
      exact end0 (NR.v _) (by rw [← hi])
    · rw [if_neg hx] at hi
      have q : (x.toList == y.toList) = false := by rw [stA_beq]; exact decide_eq_false hx
      refine G1 F4 (an hat (an q (an e3 tt))) tt tt tt ⟨?_⟩
      refine ⟨m - 1, k + 1, by omega, ⟨by omega, hi⟩, ?_, (by first | rfl | trivial)⟩
      try unfold ms58_0
      exact A0 tt
  · have hk2 : k = l.length := by omega
    rw [hk2, List.drop_length] at hi
    refine G1 F4 tt tt tt tt ⟨?_⟩
    refine R1 tt ⟨?_⟩
    exact end0 (NR.v _) (by rw [← hi]; rfl)
theorem contains_p (l : List ByteArray) (c : Option Nat) (x : ByteArray) (hl : l.length ≤ 1000) : PCall Tryd.prog glob 57 [.vsl l.length (strs l) c, stA x] (.v (.bool (decide (0 ≤ idxK l x 0)))) := by
  refine PCall.of ctx.nr (List.forall_mem_cons.2 ⟨NR.vsl (NR.strs _), List.forall_mem_cons.2 ⟨NR.v _, fun _ h => absurd h List.not_mem_nil⟩⟩) (NR.v _) ?_
  refine lcall57 (by simp) 0 (Nat.le_refl _) ?_
  unfold lc57
  refine I1 tt ⟨?_⟩
  have ip := index_p l c x hl
  refine G1 F4 tt (an ip.go tt) tt tt ⟨?_⟩
  refine R1 tt ⟨?_⟩
  exact end0 (NR.v _) rfl
/-- Does a text stand twice? -/
def twiceK (l : List ByteArray) (k : Nat) : Bool := (List.range l.length).any fun i => decide (k ≤ i) && decide (0 ≤ idxK (l.take i) (l.getD i ⟨#[]⟩) 0)
def twiceP (l : List ByteArray) : Bool := twiceK l 0
theorem twiceK_step (l : List ByteArray) (k : Nat) (h : k < l.length) : twiceK l k = (decide (0 ≤ idxK (l.take k) (l.getD k ⟨#[]⟩) 0) || twiceK l (k + 1)) := by
  unfold twiceK
  rw [Bool.eq_iff_iff]
  simp only [List.any_eq_true, List.mem_range, Bool.and_eq_true, decide_eq_true_eq, Bool.or_eq_true]
  constructor
  · rintro ⟨i, h1, h2, h3⟩
    by_cases e : i = k
    · subst e
      exact .inl h3
    · exact .inr ⟨i, h1, by omega, h3⟩
  · rintro (h1 | ⟨i, h1, h2, h3⟩)
    · exact ⟨k, h, Nat.le_refl _, h1⟩
    · exact ⟨i, h1, by omega, h3⟩
theorem twiceK_end (l : List ByteArray) : twiceK l l.length = false := by
  unfold twiceK
  rw [List.any_eq_false]
  intro i hi
  rw [List.mem_range] at hi
  simp
  omega
theorem twice_p (l : List ByteArray) (c : Option Nat) (hl : l.length ≤ 1000) : PCall Tryd.prog glob 40 [.vsl l.length (strs l) c] (.v (.bool (twiceP l))) := by
  refine PCall.of ctx.nr (List.forall_mem_cons.2 ⟨NR.vsl (NR.strs _), fun _ h => absurd h List.not_mem_nil⟩) (NR.v _) ?_
  refine lcall40 (by simp) 0 (Nat.le_refl _) ?_
  unfold lc40
  refine I1 tt ⟨?_⟩
  have hs := strs_length l
  obtain ⟨V, hV⟩ : ∃ V, twiceP l = V := ⟨_, rfl⟩
  rw [hV]
  refine G1 F4 tt tt tt tt ⟨?_⟩
  refine lavc_loopM ms40_0 (fun m (k : Nat) => m + k = l.length ∧ twiceK l k = V) (fun k => [(7, ivC k)]) (fun _ => []) l.length 0 ⟨by omega, hV⟩ ?_ rfl ?_
  · try unfold ms40_0
    refine A1 tt ⟨?_⟩
    rfl
  rintro m k ⟨hk, hi⟩
  try unfold ms40_0
  refine M1 tt ⟨?_⟩
  refine G1 F1 tt tt tt tt ⟨?_⟩
  refine cnd rfl (fun hc => ?_) (fun hc => ?_)
  · have hkl : k < l.length := by omega
    have hat := strs_at l k hkl
    rw [twiceK_step l k hkl] at hi
    have e3 := i64n ((k : Int) + 1) (k + 1) (by omega) (by omega)
    obtain ⟨y, hy⟩ : ∃ y, l.getD k ⟨#[]⟩ = y := ⟨_, rfl⟩
    rw [hy] at hat hi
    have htk : List.take k (strs l) = strs (l.take k) := by simp [strs, List.map_take]
    have hln : (l.take k).length = k := by rw [List.length_take]; omega
    have cp := fun c => contains_p (l.take k) c y (by omega)
    rw [hln] at cp
    obtain ⟨w, hw⟩ : ∃ w, decide (0 ≤ idxK (l.take k) y 0) = w := ⟨_, rfl⟩
    rw [hw] at cp hi
    cases w with
    | true =>
      repeat (first
        | (with_reducible refine lops_step fun K hK => ?_; simp (disch := first | exact dch | fail) only [go_sem, Nat.reduceAdd, Nat.reduceSub, reduceIte, Nat.reduceEqDiff, Int.reduceToNat, Int.reduceBEq, Int.reduceBNe, hat, htk, Nat.mul_one, Nat.sub_zero]; (try (first | (refine And.intro (fun _ => ?_) (fun h => absurd h (by decide))) | (refine And.intro (fun h => absurd h (by decide)) (fun _ => ?_)))); (repeat (with_reducible refine And.intro acl ?_)); (first | (refine hK _ _ ?_) | (refine ⟨_, rfl, hK _ _ ?_⟩) | (refine Or.inl (hK _ _ ?_)) | (refine ⟨_, _, Or.inl ((cp _).go _), (by first | exact ⟨[], (List.append_nil _).symm⟩ | exact ⟨_, rfl⟩), hK _ _ ?_⟩) | (refine ⟨_, _, Or.inl ((cp _).go _), hK _ _ ?_⟩) | (refine ⟨_, _, Or.inl ((cp _).go _).weakQ, hK _ _ ?_⟩)); clear hK K)
        | (with_reducible refine lops_nil ?_)
        | (with_reducible first | refine lavc_reg ?_ | refine lavc_seq ?_ | refine lavc_block ?_ | refine lavc_skip ?_ | refine lavc_exit ?_ | refine lavc_ret ?_ | refine lavcR_round ?_)
        | (refine lavc_cond rfl (fun _ => ?_) (fun hc => absurd hc (by decide)))
        | (refine lavc_cond rfl (fun hc => absurd hc (by decide)) (fun _ => ?_))
        | (simp only [↓reduceIte, Nat.reduceEqDiff, reduceCtorEq]))
      refine R1 tt ⟨?_⟩
      exact end0 (NR.v _) (by rw [← hi]; rfl)
    | false =>
      rw [Bool.false_or] at hi
      repeat (first
        | (with_reducible refine lops_step fun K hK => ?_; simp (disch := first | exact dch | fail) only [go_sem, Nat.reduceAdd, Nat.reduceSub, reduceIte, Nat.reduceEqDiff, Int.reduceToNat, Int.reduceBEq, Int.reduceBNe, hat, htk, Nat.mul_one, Nat.sub_zero, e3]; (try (first | (refine And.intro (fun _ => ?_) (fun h => absurd h (by decide))) | (refine And.intro (fun h => absurd h (by decide)) (fun _ => ?_)))); (repeat (with_reducible refine And.intro acl ?_)); (first | (refine hK _ _ ?_) | (refine ⟨_, rfl, hK _ _ ?_⟩) | (refine Or.inl (hK _ _ ?_)) | (refine ⟨_, _, Or.inl ((cp _).go _), (by first | exact ⟨[], (List.append_nil _).symm⟩ | exact ⟨_, rfl⟩), hK _ _ ?_⟩) | (refine ⟨_, _, Or.inl ((cp _).go _), hK _ _ ?_⟩) | (refine ⟨_, _, Or.inl ((cp _).go _).weakQ, hK _ _ ?_⟩)); clear hK K)
        | (with_reducible refine lops_nil ?_)
        | (with_reducible first | refine lavc_reg ?_ | refine lavc_seq ?_ | refine lavc_block ?_ | refine lavc_skip ?_ | refine lavc_exit ?_ | refine lavc_ret ?_ | refine lavcR_round ?_)
        | (refine lavc_cond rfl (fun _ => ?_) (fun hc => absurd hc (by decide)))
        | (refine lavc_cond rfl (fun hc => absurd hc (by decide)) (fun _ => ?_))
        | (simp only [↓reduceIte, Nat.reduceEqDiff, reduceCtorEq]))
      refine ⟨m - 1, k + 1, by omega, ⟨by omega, hi⟩, ?_, (by first | rfl | trivial)⟩
      try unfold ms40_0
      exact A0 tt
  · have hk2 : k = l.length := by omega
    rw [hk2, twiceK_end] at hi
    refine G1 F4 tt tt tt tt ⟨?_⟩
    refine R1 tt ⟨?_⟩
    exact end0 (NR.v _) (by rw [← hi])
theorem notv_p (s : ByteArray) (h : s.size ≤ 9223372036854775807) : PCall Tryd.prog glob 56 [stA s] (.v (.bool (!validP s))) := by
  refine PCall.of ctx.nr nrs (NR.v _) ?_
  refine lcall56 (by simp) 0 (Nat.le_refl _) ?_
  unfold lc56
  refine I1 tt ⟨?_⟩
  have vp := valid_p s h
  refine G1 F4 tt (an vp.go tt) tt tt ⟨?_⟩
  refine R1 tt ⟨?_⟩
  exact end0 (NR.v _) rfl
/-- The place of the first text that is not UTF-8. -/
def ifK : List ByteArray → Nat → Int
  | [], _ => -1
  | a :: l, k => if validP a then ifK l (k + 1) else (k : Int)
theorem ifK_step (l : List ByteArray) (k : Nat) (h : k < l.length) : ifK (l.drop k) k = if validP (l.getD k ⟨#[]⟩) then ifK (l.drop (k + 1)) (k + 1) else (k : Int) := by
  rw [List.drop_eq_getElem_cons h, ifK, List.getD_eq_getElem?_getD, List.getElem?_eq_getElem h]
  rfl
theorem ifK_all : ∀ (l : List ByteArray) (k : Nat), decide (0 ≤ ifK l k) = !(l.all validP)
  | [], k => rfl
  | a :: l, k => by
    rw [ifK, List.all_cons]
    cases hv : validP a with
    | true =>
      rw [if_pos rfl, ifK_all l (k + 1), Bool.true_and]
    | false =>
      rw [if_neg (by decide), Bool.false_and]
      simp
theorem fnA_nr : NR (.fn (.func 56) []) := fun σ w u h => by
  cases h with
  | fn us hl ha => exact .fn us hl (fun j hj => absurd hj (Nat.not_lt_zero _))
theorem ixf_p (l : List ByteArray) (c : Option Nat) (hl : l.length ≤ 1000) (hz : ∀ s ∈ l, s.size ≤ 9223372036854775807) : PCall Tryd.prog glob 70 [.vsl l.length (strs l) c, .fn (.func 56) []] (ivC (ifK l 0)) := by
  refine PCall.of ctx.nr (List.forall_mem_cons.2 ⟨NR.vsl (NR.strs _), List.forall_mem_cons.2 ⟨fnA_nr, fun _ h => absurd h List.not_mem_nil⟩⟩) (NR.v _) ?_
  refine lcall70 (by simp) 0 (Nat.le_refl _) ?_
  unfold lc70
  refine I1 tt ⟨?_⟩
  have hs := strs_length l
  obtain ⟨V, hV⟩ : ∃ V, ifK l 0 = V := ⟨_, rfl⟩
  rw [hV]
  refine G1 F4 tt tt tt tt ⟨?_⟩
  refine lavc_loopM ms70_0 (fun m (k : Nat) => m + k = l.length ∧ ifK (l.drop k) k = V) (fun k => [(8, ivC k)]) (fun _ => []) l.length 0 ⟨by omega, by rw [List.drop_zero]; exact hV⟩ ?_ rfl ?_
  · try unfold ms70_0
    refine A1 tt ⟨?_⟩
    rfl
  rintro m k ⟨hk, hi⟩
  try unfold ms70_0
  refine M1 tt ⟨?_⟩
  refine G1 F1 tt tt tt tt ⟨?_⟩
  refine cnd rfl (fun hc => ?_) (fun hc => ?_)
  · have hkl : k < l.length := by omega
    have hat := strs_at l k hkl
    rw [ifK_step l k hkl] at hi
    have e3 := i64n ((k : Int) + 1) (k + 1) (by omega) (by omega)
    have hys : (l.getD k ⟨#[]⟩).size ≤ 9223372036854775807 := by
      rw [List.getD_eq_getElem?_getD, List.getElem?_eq_getElem hkl]
      exact hz _ (List.getElem_mem hkl)
    obtain ⟨y, hy⟩ : ∃ y, l.getD k ⟨#[]⟩ = y := ⟨_, rfl⟩
    rw [hy] at hat hi hys
    have np := notv_p y hys
    cases hv : validP y with
    | true =>
      rw [hv] at hi np
      rw [if_pos rfl] at hi
      have np : PCall Tryd.prog glob 56 [stA y] (.v (.bool false)) := np
      refine G1 F4 (an hat (an e3 tt)) (an np.go tt) tt tt ⟨?_⟩
      refine ⟨m - 1, k + 1, by omega, ⟨by omega, hi⟩, ?_, (by first | rfl | trivial)⟩
      try unfold ms70_0
      exact A0 tt
    | false =>
      rw [hv] at hi np
      rw [if_neg (by decide)] at hi
      have np : PCall Tryd.prog glob 56 [stA y] (.v (.bool true)) := np
      refine G1 F4 (an hat (an e3 tt)) (an np.go tt) tt tt ⟨?_⟩
      refine R1 tt ⟨?_⟩
      exact end0 (NR.v _) (by rw [← hi])
  · have hk2 : k = l.length := by omega
    rw [hk2, List.drop_length] at hi
    refine G1 F4 tt tt tt tt ⟨?_⟩
    refine R1 tt ⟨?_⟩
    exact end0 (NR.v _) (by rw [← hi]; rfl)
theorem ctf_p (l : List ByteArray) (c : Option Nat) (hl : l.length ≤ 1000) (hz : ∀ s ∈ l, s.size ≤ 9223372036854775807) : PCall Tryd.prog glob 55 [.vsl l.length (strs l) c, .fn (.func 56) []] (.v (.bool (!(l.all validP)))) := by
  refine PCall.of ctx.nr (List.forall_mem_cons.2 ⟨NR.vsl (NR.strs _), List.forall_mem_cons.2 ⟨fnA_nr, fun _ h => absurd h List.not_mem_nil⟩⟩) (NR.v _) ?_
  refine lcall55 (by simp) 0 (Nat.le_refl _) ?_
  unfold lc55
  refine I1 tt ⟨?_⟩
  have ip := ixf_p l c hl hz
  rw [← ifK_all l 0]
  refine G1 F4 tt (an ip.go tt) tt tt ⟨?_⟩
  refine R1 tt ⟨?_⟩
  exact end0 (NR.v _) rfl
end Go.Abs.S
namespace Go.Abs.S
attribute [local go_sem] lguard aopO aop aenv toAV tput aLoad aStore vcells aBin aNilI aUn aAlloc aBox aBuild aBSlice afill aConv isIntT aappZ aCap aArr aMM aMake aSlice bnd3 bnd aFldAddr aFld aIdxAddr aIdx aExt aLen aCopy aEq0 bAV aUb aapp aappQ agh acont List.getD_cons_zero List.getD_cons_succ List.set_cons_zero List.set_cons_succ List.getElem?_cons_zero List.getElem?_cons_succ List.length_cons List.length_nil List.map_cons List.map_nil ints_length if_true if_false Bool.false_eq_true true_and and_true eq_self ne_eq not_false_eq_true not_true_eq_false beq_self_eq_true Nat.zero_add Nat.add_zero Nat.mul_one Nat.zero_mul Int.toNat_natCast List.toList_toArray List.all_cons List.all_nil AV.one Value.oneCell' Bool.and_true Bool.true_and forall_const true_implies false_implies implies_true Option.map_some Option.map_none Option.isSome_some Option.isSome_none imp_self rdP_flat rdP_row splice_one ints_set ints_get List.append_nil List.cons_append List.nil_append List.getElem?_toArray List.drop_zero ints_drop ints_take List.take_of_length_le splice_all ints_one Option.some.injEq Option.getD_some List.length_replicate zArr List.map_replicate rep_ints splice_intsR List.length_set List.length_append List.flatten_replicate_singleton rep_slice rep_string rep_bool rep_iface List.replicate_zero if_pos if_neg List.mapM_cons List.mapM_nil Option.pure_def Option.bind_eq_bind Option.bind_some Bool.true_eq_false Bool.not_false Bool.not_true get_concat set_concat
open Go.Proofs
set_option linter.unusedVariables false
set_option linter.unusedSimpArgs false
set_option maxRecDepth 100000
set_option maxHeartbeats 4000000
abbrev textA (s : ByteArray) : AV := .agg (valT s)
theorem NR.textA (s : ByteArray) : NR (textA s) := NR.agg (by
  intro x hx
  simp only [valT, List.mem_cons, List.not_mem_nil, or_false] at hx
  rcases hx with rfl | rfl | rfl | rfl <;> exact NR.v _)
theorem formT_p (s : ByteArray) (h : s.size ≤ 9223372036854775807) : PCall Tryd.prog glob 39 [textA s] (.v (.bool (validP s))) := by
  refine PCall.of ctx.nr (List.forall_mem_cons.2 ⟨NR.textA s, fun _ h => absurd h List.not_mem_nil⟩) (NR.v _) ?_
  refine lcall39 (by simp) 0 (Nat.le_refl _) ?_
  unfold textA valT
  unfold lc39
  refine I1 tt ⟨?_⟩
  have vp := valid_p s h
  refine G1 F4 tt (an vp.go tt) tt tt ⟨?_⟩
  refine R1 tt ⟨?_⟩
  exact end0 (NR.v _) rfl
theorem goodT_p (s : ByteArray) (h : s.size ≤ 9223372036854775807) : PCall Tryd.prog glob 24 [textA s, ivC 2] (ivC (if validP s then 0 else 2)) := by
  refine PCall.of ctx.nr (List.forall_mem_cons.2 ⟨NR.textA s, List.forall_mem_cons.2 ⟨NR.v _, fun _ h => absurd h List.not_mem_nil⟩⟩) (NR.v _) ?_
  refine lcall24 (by simp) 0 (Nat.le_refl _) ?_
  unfold textA valT
  unfold lc24
  refine I1 tt ⟨?_⟩
  have fp : PCall Tryd.prog glob 39 [.agg [ivC 4, stA s, nlA, nlA]] (.v (.bool (validP s))) := formT_p s h
  have tp : PCall Tryd.prog glob 40 [.v (.slice none 0 0)] (.v (.bool false)) := (twice_p [] none (by decide)).les (args := [.v (.slice none 0 0)]) ⟨AvLe.nil, trivial⟩
  cases hv : validP s with
  | false =>
    rw [hv] at fp
    refine G1 F4 tt (an fp.go tt) tt tt ⟨?_⟩
    refine R1 tt ⟨?_⟩
    exact end0 (NR.v _) rfl
  | true =>
    rw [hv] at fp
    refine G1 F4 tt (an fp.go (an tp.go tt)) tt tt ⟨?_⟩
    refine lavc_rounds 1 ?_
    refine G1 F4 tt tt tt tt ⟨?_⟩
    refine R1 tt ⟨?_⟩
    exact end0 (NR.v _) rfl
theorem vals_at (X : List ByteArray) (k : Nat) (h : k < X.length) : ((vals X).drop (k * 4)).take 4 = valT (X.getD k ⟨#[]⟩) := by
  induction X generalizing k with
  | nil => exact absurd h (Nat.not_lt_zero _)
  | cons a X ih =>
    have e : vals (a :: X) = valT a ++ vals X := rfl
    have hl : (valT a).length = 4 := rfl
    rw [e]
    cases k with
    | zero => simp [valT]
    | succ k =>
      rw [show (k + 1) * 4 = k * 4 + 1 + 1 + 1 + 1 from by omega]
      have := ih k (by simpa using h)
      simp only [valT, List.cons_append, List.nil_append, List.drop_succ_cons] at this ⊢
      simpa using this
theorem formP_p (N X : List ByteArray) (hX : X.length = N.length) (hl : N.length ≤ 1000) (hz : ∀ s ∈ N, s.size ≤ 9223372036854775807) : PCall Tryd.prog glob 39 [pageA N X] (.v (.bool (N.all validP))) := by
  refine PCall.of ctx.nr (List.forall_mem_cons.2 ⟨NR.pageA N X, fun _ h => absurd h List.not_mem_nil⟩) (NR.v _) ?_
  refine lcall39 (by simp) 0 (Nat.le_refl _) ?_
  unfold pageA
  unfold lc39
  refine I1 tt ⟨?_⟩
  have cf := fun c => ctf_p N c hl hz
  obtain ⟨w, hw⟩ : ∃ w, N.all validP = w := ⟨_, rfl⟩
  rw [hw] at cf ⊢
  have q1 : (((N.length : Nat) : Int) == ((N.length : Nat) : Int)) = true := by simp
  repeat (first
    | (with_reducible refine lops_step fun K hK => ?_; simp (disch := first | exact dch | fail) only [go_sem, Nat.reduceAdd, Nat.reduceSub, reduceIte, Nat.reduceEqDiff, Int.reduceToNat, Int.reduceBEq, Int.reduceBNe, q1, Bool.not_not]; (try (first | (refine And.intro (fun _ => ?_) (fun h => absurd h (by decide))) | (refine And.intro (fun h => absurd h (by decide)) (fun _ => ?_)))); (repeat (with_reducible refine And.intro acl ?_)); (first | (refine hK _ _ ?_) | (refine ⟨_, rfl, hK _ _ ?_⟩) | (refine Or.inl (hK _ _ ?_)) | (refine ⟨_, _, Or.inl ((cf _).go _), (by first | exact ⟨[], (List.append_nil _).symm⟩ | exact ⟨_, rfl⟩), hK _ _ ?_⟩) | (refine ⟨_, _, Or.inl ((cf _).go _), hK _ _ ?_⟩) | (refine ⟨_, _, Or.inl ((cf _).go _).weakQ, hK _ _ ?_⟩)); clear hK K)
    | (with_reducible refine lops_nil ?_)
    | (with_reducible first | refine lavc_reg ?_ | refine lavc_seq ?_ | refine lavc_block ?_ | refine lavc_skip ?_ | refine lavc_exit ?_ | refine lavc_ret ?_ | refine lavcR_round ?_)
    | (refine lavc_cond rfl (fun _ => ?_) (fun hc => absurd hc (by decide)))
    | (refine lavc_cond rfl (fun hc => absurd hc (by decide)) (fun _ => ?_))
    | (simp only [↓reduceIte, Nat.reduceEqDiff, reduceCtorEq]))
  refine R1 tt ⟨?_⟩
  exact end0 (NR.v _) (by simp)
/-- What is wrong with a page of texts. -/
def goodPg (N X : List ByteArray) : Int := if N.all validP = false then 2 else if 64 < N.length then 11 else if twiceP N = true then 10 else if X.all validP = true then 0 else 2
theorem goodP_p (N X : List ByteArray) (hX : X.length = N.length) (hl : N.length ≤ 1000) (hz : ∀ s ∈ N, s.size ≤ 9223372036854775807) (hx : ∀ s ∈ X, s.size ≤ 9223372036854775807) : PCall Tryd.prog glob 24 [pageA N X, ivC 1] (ivC (goodPg N X)) := by
  refine PCall.of ctx.nr (List.forall_mem_cons.2 ⟨NR.pageA N X, List.forall_mem_cons.2 ⟨NR.v _, fun _ h => absurd h List.not_mem_nil⟩⟩) (NR.v _) ?_
  refine lcall24 (by simp) 0 (Nat.le_refl _) ?_
  have fp := formP_p N X hX hl hz
  have tp := fun c => twice_p N c hl
  have hlx := vals_length X
  rw [hX] at hlx
  unfold pageA at fp ⊢
  unfold lc24
  refine I1 tt ⟨?_⟩
  unfold goodPg
  cases hv : N.all validP with
  | false =>
    rw [hv] at fp
    rw [if_pos rfl]
    refine G1 F4 tt (an fp.go tt) tt tt ⟨?_⟩
    refine R1 tt ⟨?_⟩
    exact end0 (NR.v _) rfl
  | true =>
    rw [hv] at fp
    rw [if_neg (by decide)]
    by_cases h64 : 64 < N.length
    · rw [if_pos h64]
      have d1 : decide ((N.length : Int) > 64) = true := by rw [decide_eq_true_eq]; omega
      refine G1 F4 (an d1 tt) (an fp.go tt) tt tt ⟨?_⟩
      refine R1 tt ⟨?_⟩
      exact end0 (NR.v _) rfl
    rw [if_neg h64]
    have d1 : decide ((N.length : Int) > 64) = false := by rw [decide_eq_false_iff_not]; omega
    cases ht : twiceP N with
    | true =>
      rw [ht] at tp
      rw [if_pos rfl]
      refine G1 F4 (an d1 tt) (an fp.go tt) (an (fun u => (tp u).go) tt) tt ⟨?_⟩
      refine R1 tt ⟨?_⟩
      exact end0 (NR.v _) rfl
    | false =>
      rw [ht] at tp
      rw [if_neg (by decide)]
      obtain ⟨V, hV⟩ : ∃ V : Int, (if X.all validP = true then (0 : Int) else 2) = V := ⟨_, rfl⟩
      rw [hV]
      refine G1 F4 (an d1 tt) (an fp.go tt) (an (fun u => (tp u).go) tt) tt ⟨?_⟩
      refine lavc_loopM ms24_0 (fun m (x : Nat × AHeap) => m + x.1 = N.length ∧ (if (X.drop x.1).all validP = true then (0 : Int) else 2) = V) (fun x => [(27, ivC x.1)]) (fun x => [Blk.mk [ivC 6, stA ⟨#[]⟩, .vsl N.length (strs N) none, .vsl N.length (vals X) none] 0 true 26] ++ x.2) N.length (0, []) ⟨by omega, by rw [List.drop_zero]; exact hV⟩ ?_ ?_ ?_
      · try unfold ms24_0
        refine A1 tt ⟨?_⟩
        rfl
      · rfl
      rintro m ⟨k, gg⟩ ⟨hk, hi⟩
      simp only at hk hi ⊢
      try unfold ms24_0
      refine M1 tt ⟨?_⟩
      refine G1 F1 tt tt tt tt ⟨?_⟩
      refine cnd rfl (fun hc => ?_) (fun hc => ?_)
      · have hkl : k < X.length := by omega
        have hat := vals_at X k hkl
        have hys : (X.getD k ⟨#[]⟩).size ≤ 9223372036854775807 := by
          rw [List.getD_eq_getElem?_getD, List.getElem?_eq_getElem hkl]
          exact hx _ (List.getElem_mem hkl)
        have hdr : (X.drop k).all validP = (validP (X.getD k ⟨#[]⟩) && (X.drop (k + 1)).all validP) := by
          rw [List.drop_eq_getElem_cons hkl, List.all_cons, List.getD_eq_getElem?_getD, List.getElem?_eq_getElem hkl]
          rfl
        rw [hdr] at hi
        obtain ⟨y, hy⟩ : ∃ y, X.getD k ⟨#[]⟩ = y := ⟨_, rfl⟩
        rw [hy] at hat hys hi
        have gt := goodT_p y hys
        have e3 := i64n ((k : Int) + 1) (k + 1) (by omega) (by omega)
        have e2 : IntKind.i64.wrap (1 + 1) = 2 := by decide
        unfold textA valT at gt
        unfold valT at hat
        cases hvy : validP y with
        | true =>
          rw [hvy] at hi gt
          have gt : PCall Tryd.prog glob 24 [.agg [ivC 4, stA y, nlA, nlA], ivC 2] (ivC 0) := gt
          refine G1 F4 (an hat (an hlx (an e2 (an e3 tt)))) (an gt.go tt) tt tt ⟨?_⟩
          refine ⟨m - 1, (k + 1, gg ++ [⟨[ivC 4, stA y, nlA, nlA], 0, true, 26⟩]), by omega, ⟨by show m - 1 + (k + 1) = N.length; omega, by rw [← hi, Bool.true_and]⟩, ?_, (by first | rfl | trivial)⟩
          try unfold ms24_0
          exact A0 tt
        | false =>
          rw [hvy] at hi gt
          have gt : PCall Tryd.prog glob 24 [.agg [ivC 4, stA y, nlA, nlA], ivC 2] (ivC 2) := gt
          refine G1 F4 (an hat (an hlx (an e2 (an e3 tt)))) (an gt.go tt) tt tt ⟨?_⟩
          refine R1 tt ⟨?_⟩
          exact end0 (NR.v _) (by rw [← hi]; rfl)
      · have hk2 : k = X.length := by omega
        rw [hk2, List.drop_length] at hi
        refine G1 F4 tt tt tt tt ⟨?_⟩
        refine R1 tt ⟨?_⟩
        exact end0 (NR.v _) (by rw [← hi]; rfl)
theorem Good_p (N X : List ByteArray) (hX : X.length = N.length) (hl : N.length ≤ 1000) (hz : ∀ s ∈ N, s.size ≤ 9223372036854775807) (hx : ∀ s ∈ X, s.size ≤ 9223372036854775807) : PCall Tryd.prog glob 11 [pageA N X] (ivC (goodPg N X)) := by
  refine PCall.of ctx.nr (List.forall_mem_cons.2 ⟨NR.pageA N X, fun _ h => absurd h List.not_mem_nil⟩) (NR.v _) ?_
  refine lcall11 (by simp) 0 (Nat.le_refl _) ?_
  have gp := goodP_p N X hX hl hz hx
  unfold pageA at gp ⊢
  unfold lc11
  refine I1 tt ⟨?_⟩
  refine G1 F4 tt (an gp.go tt) tt tt ⟨?_⟩
  refine R1 tt ⟨?_⟩
  exact end0 (NR.v _) rfl
/-- A name's value. -/
def getA (N X : List ByteArray) (name : ByteArray) : AV := if idxK N name 0 < 0 then .tup [.agg [ivC 0, stA ⟨#[]⟩, nlA, nlA], .v (.bool false)] else .tup [textA (X.getD (idxK N name 0).toNat ⟨#[]⟩), .v (.bool true)]
theorem idxK_lt : ∀ (l : List ByteArray) (x : ByteArray) (k : Nat), idxK l x k < ((k + l.length : Nat) : Int) ∧ (idxK l x k = -1 ∨ (k : Int) ≤ idxK l x k)
  | [], x, k => ⟨by simp only [idxK]; omega, .inl rfl⟩
  | a :: l, x, k => by
    have ih := idxK_lt l x (k + 1)
    unfold idxK
    rw [List.length_cons]
    split
    · exact ⟨by omega, .inr (Int.le_refl _)⟩
    · exact ⟨by omega, ih.2.imp id (by omega)⟩
theorem get_p (N X : List ByteArray) (hX : X.length = N.length) (hl : N.length ≤ 1000) (name : ByteArray) : PCall Tryd.prog glob 44 [pageA N X, stA name] (getA N X name) := by
  have hnr : NR (getA N X name) := by
    unfold getA
    split
    · exact NR.tup (by intro c hc; simp at hc; rcases hc with rfl | rfl; exact NR.agg (by intro c hc; simp at hc; rcases hc with rfl | rfl | rfl <;> exact NR.v _); exact NR.v _)
    · exact NR.tup (by intro c hc; simp at hc; rcases hc with rfl | rfl; exact NR.textA _; exact NR.v _)
  refine PCall.of ctx.nr (List.forall_mem_cons.2 ⟨NR.pageA N X, List.forall_mem_cons.2 ⟨NR.v _, fun _ h => absurd h List.not_mem_nil⟩⟩) hnr ?_
  refine lcall44 (by simp) 0 (Nat.le_refl _) ?_
  have ip := fun c => index_p N c name hl
  have hlt := idxK_lt N name 0
  have hlx := vals_length X
  rw [hX] at hlx
  unfold getA at hnr ⊢
  obtain ⟨i, hi⟩ : ∃ i, idxK N name 0 = i := ⟨_, rfl⟩
  rw [hi] at ip hlt hnr ⊢
  unfold pageA
  unfold lc44
  refine I1 tt ⟨?_⟩
  by_cases h0 : i < 0
  · rw [if_pos h0] at hnr ⊢
    have d0 : decide (i < 0) = true := by rw [decide_eq_true_eq]; omega
    refine G1 F4 (an d0 tt) tt (an (fun u => (ip u).go) tt) tt ⟨?_⟩
    refine R1 tt ⟨?_⟩
    exact end0 hnr rfl
  · rw [if_neg h0] at hnr ⊢
    have d0 : decide (i < 0) = false := by rw [decide_eq_false_iff_not]; omega
    obtain ⟨k, rfl⟩ := Int.eq_ofNat_of_zero_le (show 0 ≤ i by omega)
    have hkl : k < X.length := by omega
    have d1 : decide ((k : Int) ≥ (N.length : Int)) = false := by rw [decide_eq_false_iff_not]; omega
    have hat := vals_at X k hkl
    rw [Int.toNat_natCast] at hnr ⊢
    obtain ⟨y, hy⟩ : ∃ y, X.getD k ⟨#[]⟩ = y := ⟨_, rfl⟩
    rw [hy] at hat hnr ⊢
    unfold textA at hnr ⊢
    unfold valT at hat hnr ⊢
    refine G1 F4 (an d0 (an d1 (an hat (an hlx tt)))) tt (an (fun u => (ip u).go) tt) tt ⟨?_⟩
    refine R1 tt ⟨?_⟩
    exact end0 hnr rfl
end Go.Abs.S
