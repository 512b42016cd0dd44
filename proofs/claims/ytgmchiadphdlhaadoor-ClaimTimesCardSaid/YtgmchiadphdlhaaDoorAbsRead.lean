/- What an argument that reads as data is looked at as: numbers, texts, bools, slices and arrays of these. -/
import Derived.Test.YtgmchiadphdlhaaDoorAbsLaw
import Derived.Deep.Slices
namespace Go.Abs
open Go.Deep
set_option linter.unusedVariables false
set_option linter.unusedSimpArgs false
variable {P : Program} {H : Type} {enc : TypeId × Value → H} {w : World} {spare : Nat → Bool} {held : Bool}
/-- How data of a kind are looked at: their cells. -/
structure Rd (α : Type) where
  sz : Nat
  av : α → List AV
  wf : α → Prop
  len : ∀ y, wf y → (av y).length = sz
  dat : {H : Type} → α → DataW H → Prop
def Rd.Is {α : Type} (r : Rd α) (enc : TypeId × Value → H) (P : Program) (w : World) (spare : Nat → Bool) (held : Bool) (t : TypeId) : Prop :=
  ∀ fuel cs x, DataW.trod enc P w 0 spare held fuel t cs = some x → ∃ y, r.wf y ∧ cs.length = r.sz ∧ (∀ j, j < r.sz → AR (lawSig w) w ((r.av y).getD j .any) (cs.getD j undef)) ∧ r.dat y x.1
def Rd.int (k : IntKind) : Rd Int := ⟨1, fun y => [.v (.int k y)], fun y => (Lit.int k y).wf = true, fun _ _ => rfl, fun _ _ => True⟩
theorem Rd.int_is {k : IntKind} {t : TypeId} (ht : P.underlying t = some (.int k)) : (Rd.int k).Is enc P w spare held t := by
  intro fuel cs x h
  obtain ⟨y, rfl, hw⟩ := int_read ht h
  refine ⟨y, hw, rfl, fun j hj => ?_, trivial⟩
  obtain rfl : j = 0 := by have : j < 1 := hj; omega
  exact .v _
def Rd.str : Rd ByteArray := ⟨1, fun y => [.v (.string y)], fun s => s.size ≤ maxLen, fun _ _ => rfl, fun _ _ => True⟩
def Rd.bool : Rd Bool := ⟨1, fun y => [.v (.bool y)], fun _ => True, fun _ _ => rfl, fun _ _ => True⟩
def Rd.slice {α : Type} (r : Rd α) : Rd (List α) := ⟨1, fun l => [.vsl l.length (l.flatMap r.av) none], fun l => l.length ≤ maxLen ∧ ∀ y ∈ l, r.wf y, fun _ _ => rfl, fun l d => l = [] ∨ ∃ els sp, d = .slice els sp ∧ els.length = l.length ∧ ∀ i, i < l.length → ∃ y e, l[i]? = some y ∧ els[i]? = some e ∧ r.dat y e⟩
def Rd.arr {α : Type} (n : Nat) (r : Rd α) : Rd (List α) := ⟨n * r.sz, fun l => l.flatMap r.av, fun l => l.length = n ∧ ∀ y ∈ l, r.wf y, fun l h => by
  obtain ⟨rfl, h⟩ := h
  induction l with
  | nil => simp
  | cons y l ih =>
    rw [List.flatMap_cons, List.length_append, r.len y (h y List.mem_cons_self), ih (fun z hz => h z (List.mem_cons_of_mem _ hz)), List.length_cons, Nat.succ_mul, Nat.add_comm], fun _ _ => True⟩
/-- Where a row's cell lies. -/
theorem flat_at {α : Type} (r : Rd α) : ∀ (l : List α) (j : Nat), (∀ y ∈ l, r.wf y) → j < l.length * r.sz → ∃ i y, i < l.length ∧ l[i]? = some y ∧ j = i * r.sz + j % r.sz ∧ j % r.sz < r.sz ∧ (l.flatMap r.av)[j]? = (r.av y)[j % r.sz]?
  | [], j, _, h => by simp at h
  | y :: l, j, hw, h => by
    have hz : 0 < r.sz := Nat.pos_of_ne_zero fun e => by simp [e] at h
    have hy := r.len y (hw y List.mem_cons_self)
    by_cases hj : j < r.sz
    · refine ⟨0, y, by simp, rfl, by rw [Nat.mod_eq_of_lt hj]; omega, Nat.mod_lt _ hz, ?_⟩
      rw [List.flatMap_cons, List.getElem?_append_left (by omega), Nat.mod_eq_of_lt hj]
    · rw [List.length_cons, Nat.succ_mul] at h
      obtain ⟨i, y', h1, h2, h3, h4, h5⟩ := flat_at r l (j - r.sz) (fun z hz => hw z (List.mem_cons_of_mem _ hz)) (by omega)
      have hm : (j - r.sz) % r.sz = j % r.sz := (Nat.mod_eq_sub_mod (by omega)).symm
      rw [hm] at h3 h4 h5
      refine ⟨i + 1, y', by simp; omega, by simpa using h2, by rw [Nat.succ_mul]; omega, h4, ?_⟩
      rw [List.flatMap_cons, List.getElem?_append_right (by omega), hy, h5]
theorem Rd.slice_is {α : Type} [Inhabited α] {r : Rd α} {e t : TypeId} (ht : P.underlying t = some (.slice e)) (hsz : P.cellsOf e = r.sz) (hpos : 0 < r.sz) (hel : r.Is enc P w spare held e) : r.slice.Is enc P w spare held t := by
  intro fuel cs x h
  rcases open_slice ht h with ⟨rfl, _⟩ | ⟨a, len, cap, m, n, D, Pl, rfl, _, hl, hm, hmm, hxe, hx⟩
  · refine ⟨[], ⟨by simp, by simp⟩, rfl, fun j hj => ?_, .inl rfl⟩
    obtain rfl : j = 0 := by have : j < 1 := hj; omega
    exact .vsl0 _ _ (fun c hc => by cases hc)
  · have hlm : len ≤ m := by rw [hmm]; split <;> omega
    have hc : ∀ i, i < len → ∃ y, (r.wf y ∧ ∀ j, j < r.sz → ∃ u, w.cell? (a.add (i * r.sz + j)) = some u ∧ AR (lawSig w) w ((r.av y).getD j .any) u) ∧ r.dat y (D i) := by
      intro i hi
      obtain ⟨cs', h1, h2⟩ := hx i (by omega)
      obtain ⟨y, hw, hlen, har, hdat⟩ := hel _ _ _ h2
      obtain ⟨_, _, hcell⟩ := World.cells?_some h1
      refine ⟨y, ⟨hw, fun j hj => ⟨cs'.getD j undef, ?_, har j hj⟩⟩, hdat⟩
      have := hcell j (by omega)
      rw [hsz] at this
      have e : a.add (i * r.sz + j) = (a.add (i * r.sz)).add j := by
        unfold Addr.add
        by_cases h1 : i * r.sz = 0 <;> by_cases h2 : j = 0 <;> simp [h1, h2]
        omega
      rw [e, this, List.getD_eq_getElem?_getD, List.getElem?_eq_getElem (by omega)]
      rfl
    obtain ⟨V, hV0⟩ := choose_lt (α := α) (p := fun i y => (r.wf y ∧ ∀ j, j < r.sz → ∃ u, w.cell? (a.add (i * r.sz + j)) = some u ∧ AR (lawSig w) w ((r.av y).getD j .any) u) ∧ r.dat y (D i)) hc
    have hV := fun i hi => (hV0 i hi).1
    have hdt : r.slice.dat ((List.range len).map V) (DataW.slice ((List.range len).map D) ((List.range (m - len)).map fun j => D (len + j))) := by
      refine .inr ⟨_, _, rfl, by simp, fun i hi => ?_⟩
      rw [List.length_map, List.length_range] at hi
      exact ⟨V i, D i, by simp [hi], by simp [hi], (hV0 i hi).2⟩
    have hwf : ∀ y ∈ (List.range len).map V, r.wf y := fun y hy => by
      simp only [List.mem_map, List.mem_range] at hy
      obtain ⟨i, hi, rfl⟩ := hy
      exact (hV i hi).1
    refine ⟨(List.range len).map V, ⟨by simp; omega, hwf⟩, rfl, fun j hj => ?_, by rw [hxe]; exact hdt⟩
    obtain rfl : j = 0 := by have : j < 1 := hj; omega
    show AR (lawSig w) w (.vsl ((List.range len).map V).length (((List.range len).map V).flatMap r.av) none) (.slice (some a) len cap)
    have hll : ((List.range len).map V).length = len := by simp
    have hfl : (((List.range len).map V).flatMap r.av).length = len * r.sz := by
      have := (r.arr len).len ((List.range len).map V) ⟨hll, hwf⟩
      exact this
    rw [hll]
    have key : ∀ j, j < len * r.sz → ∃ u, w.cell? (a.add j) = some u ∧ AR (lawSig w) w ((((List.range len).map V).flatMap r.av).getD j .any) u := by
      intro j hj
      obtain ⟨i, y, h1, h2, h3, h4, h5⟩ := flat_at r ((List.range len).map V) j hwf (by rw [hll]; exact hj)
      rw [hll] at h1
      obtain rfl : V i = y := by simpa [h1] using h2
      obtain ⟨u, g1, g2⟩ := (hV i h1).2 _ h4
      refine ⟨u, by rw [h3]; exact g1, ?_⟩
      rw [List.getD_eq_getElem?_getD, h5, ← List.getD_eq_getElem?_getD]
      exact g2
    by_cases h0 : len * r.sz = 0
    · have : len = 0 := (Nat.mul_eq_zero.1 h0).resolve_right (by omega)
      subst this
      exact .vsl0 _ _ (fun c hc => by cases hc)
    · obtain ⟨u0, c0, _⟩ := key 0 (by omega)
      obtain ⟨ab, ao, asp⟩ := a
      have hsp : asp = none := by
        cases asp with
        | none => rfl
        | some s => simp [World.cell?, Addr.add] at c0; split at c0 <;> simp at c0
      subst hsp
      have hlt : ab < w.heap.size := by
        rcases Nat.lt_or_ge ab w.heap.size with h | h
        · exact h
        · simp [World.cell?, Addr.add, Array.getElem?_eq_none h] at c0
      refine .vsl ab ao cap (fun j => (w.cell? ⟨ab, ao + j, none⟩).getD undef) hlt (fun j hj => ?_) (fun j hj => ?_) hl (fun c hc => by cases hc)
      · obtain ⟨u, g1, _⟩ := key j (by omega)
        rw [Addr.add_lit] at g1
        rw [g1]
        rfl
      · obtain ⟨u, g1, g2⟩ := key j (by omega)
        rw [Addr.add_lit] at g1
        rw [g1]
        exact g2
theorem Rd.arr_is {α : Type} [Inhabited α] {n : Nat} {r : Rd α} {e t : TypeId} (ht : P.underlying t = some (.array n e)) (hsz : P.cellsOf e = r.sz) (hct : P.cellsOf t = n * r.sz) (hel : r.Is enc P w spare held e) : (r.arr n).Is enc P w spare held t := by
  intro fuel cs x h
  obtain ⟨xs, m, _, _, hcl, hxl, hx⟩ := DataW.trod_array ht h
  have hc : ∀ i, i < n → ∃ y, r.wf y ∧ ∀ j, j < r.sz → AR (lawSig w) w ((r.av y).getD j .any) (cs.getD (i * r.sz + j) undef) := by
    intro i hi
    have h1 := hx i hi
    rw [List.getElem?_eq_getElem (by omega), hsz] at h1
    obtain ⟨y, hw, hlen, har, _⟩ := hel _ _ _ h1
    refine ⟨y, hw, fun j hj => ?_⟩
    have := har j hj
    rwa [List.getD_eq_getElem?_getD (l := (cs.drop (i * r.sz)).take r.sz), List.getElem?_take, if_pos hj, List.getElem?_drop, ← List.getD_eq_getElem?_getD] at this
  obtain ⟨V, hV⟩ := choose_lt (α := α) (p := fun i y => r.wf y ∧ ∀ j, j < r.sz → AR (lawSig w) w ((r.av y).getD j .any) (cs.getD (i * r.sz + j) undef)) hc
  have hwf : ∀ y ∈ (List.range n).map V, r.wf y := fun y hy => by
    simp only [List.mem_map, List.mem_range] at hy
    obtain ⟨i, hi, rfl⟩ := hy
    exact (hV i hi).1
  have hll : ((List.range n).map V).length = n := by simp
  refine ⟨(List.range n).map V, ⟨hll, hwf⟩, by rw [hcl, hct]; rfl, fun j hj => ?_, trivial⟩
  obtain ⟨i, y, h1, h2, h3, h4, h5⟩ := flat_at r ((List.range n).map V) j hwf (by rw [hll]; exact hj)
  rw [hll] at h1
  obtain rfl : V i = y := by simpa [h1] using h2
  show AR (lawSig w) w ((((List.range n).map V).flatMap r.av).getD j .any) (cs.getD j undef)
  rw [List.getD_eq_getElem?_getD (l := ((List.range n).map V).flatMap r.av), h5, ← List.getD_eq_getElem?_getD]
  have := (hV i h1).2 _ h4
  rwa [← h3] at this
theorem Rd.str_is {t : TypeId} (ht : P.underlying t = some .string) : Rd.str.Is enc P w spare held t := by
  intro fuel cs x h
  obtain ⟨y, rfl, _, hw⟩ := DataW.trod_string ht h
  refine ⟨y, hw, rfl, fun j hj => ?_, trivial⟩
  obtain rfl : j = 0 := by have : j < 1 := hj; omega
  exact .v _
theorem Rd.bool_is {t : TypeId} (ht : P.underlying t = some .bool) : Rd.bool.Is enc P w spare held t := by
  intro fuel cs x h
  obtain ⟨y, rfl, _⟩ := DataW.trod_bool ht h
  refine ⟨y, trivial, rfl, fun j hj => ?_, trivial⟩
  obtain rfl : j = 0 := by have : j < 1 := hj; omega
  exact .v _
/-- Numbers in a row. -/
theorem flat_ints (k : IntKind) (l : List Int) : l.flatMap (Rd.int k).av = ints k l := by
  induction l with
  | nil => rfl
  | cons y l ih => rw [List.flatMap_cons, ih]; rfl
/-- Rows of numbers in a row. -/
def rows (k : IntKind) (rs : List (List Int)) : List AV := rs.map fun r => .vsl r.length (ints k r) none
theorem rows_length (k : IntKind) (rs : List (List Int)) : (rows k rs).length = rs.length := by simp [rows]
theorem flat_rows (k : IntKind) (rs : List (List Int)) : rs.flatMap (Rd.int k).slice.av = rows k rs := by
  induction rs with
  | nil => rfl
  | cons y l ih =>
    rw [List.flatMap_cons, ih]
    show AV.vsl y.length (y.flatMap (Rd.int k).av) none :: rows k l = _
    rw [flat_ints]
    rfl
/-- Texts in a row. -/
def strs (ss : List ByteArray) : List AV := ss.map fun s => .v (.string s)
theorem strs_length (ss : List ByteArray) : (strs ss).length = ss.length := by simp [strs]
theorem flat_strs (ss : List ByteArray) : ss.flatMap Rd.str.av = strs ss := by
  induction ss with
  | nil => rfl
  | cons y l ih => rw [List.flatMap_cons, ih]; rfl
theorem rd_slice {α : Type} (r : Rd α) (l : List α) : (r.slice.av l).getD 0 .any = .vsl l.length (l.flatMap r.av) none := rfl
theorem rd_arr {α : Type} (n : Nat) (r : Rd α) (l : List α) : (r.arr n).av l = l.flatMap r.av := rfl
theorem okWide_agg {n : Nat} {t e : TypeId} {v : Value} {base : Nat} {r : Reach} (ht : P.underlying t = some (.array n e)) (hv : Value.okWide P w r base t v) : ∃ us, v = .agg us := by
  unfold Value.okWide at hv
  simp only [ht] at hv
  obtain ⟨cs, rfl, _⟩ := hv
  exact ⟨cs, rfl⟩
theorem u8_wfs {rs : List (List Int)} (h : ∀ r ∈ rs, (Rd.int .u8).slice.wf r) : ∀ r ∈ rs, ∀ x ∈ r, 0 ≤ x ∧ x ≤ 255 := fun r hr => u8_wf (h r hr).2
/-- A laid variable's cells. -/
theorem laid_ar {g : Nat} {cs : List Value} {xs : List AV} (hc : ∀ i, w.cell? ⟨g, i, none⟩ = cs[i]?) (h0 : 0 < cs.length) (hx : xs = cs.map .v) : AR (lawSig w) w (.vptr xs 0) (.pointer (some ⟨g, 0, none⟩)) := by
  subst hx
  have hlt : g < w.heap.size := by
    rcases Nat.lt_or_ge g w.heap.size with h | h
    · exact h
    · have := hc 0
      rw [List.getElem?_eq_getElem h0] at this
      simp [World.cell?, Array.getElem?_eq_none h] at this
  refine .vptr (off := 0) g 0 (fun j => cs.getD j undef) hlt (fun j hj => ?_) (fun j hj => ?_)
  · rw [List.length_map] at hj
    rw [Nat.zero_add, hc, List.getElem?_eq_getElem hj]
    simp [List.getD_eq_getElem?_getD, hj]
  · rw [List.length_map] at hj
    simp only [List.getD_eq_getElem?_getD, List.getElem?_map, List.getElem?_eq_getElem hj, Option.map_some, Option.getD_some]
    exact .v _
/-- An argument of one cell. -/
theorem Rd.arg1 {α : Type} {r : Rd α} {t : TypeId} {v : Value} {d : DataW H} {ps : List MemPlace} (his : r.Is enc P w spare held t) (h1 : r.sz = 1) (h : DataW.Trod enc P w 0 spare held t v d ps) (hv : v.cells = #[v]) : ∃ y, r.wf y ∧ AR (lawSig w) w ((r.av y).getD 0 .any) v := by
  obtain ⟨fuel, h⟩ := h
  obtain ⟨y, hw, _, ha, _⟩ := his _ _ _ h
  have := ha 0 (by omega)
  rw [hv] at this
  exact ⟨y, hw, this⟩
theorem Rd.arg1d {α : Type} {r : Rd α} {t : TypeId} {v : Value} {d : DataW H} {ps : List MemPlace} (his : r.Is enc P w spare held t) (h1 : r.sz = 1) (h : DataW.Trod enc P w 0 spare held t v d ps) (hv : v.cells = #[v]) : ∃ y, r.wf y ∧ AR (lawSig w) w ((r.av y).getD 0 .any) v ∧ r.dat y d := by
  obtain ⟨fuel, h⟩ := h
  obtain ⟨y, hw, _, ha, hd⟩ := his _ _ _ h
  have := ha 0 (by omega)
  rw [hv] at this
  exact ⟨y, hw, this, hd⟩
/-- An argument that is a row. -/
theorem Rd.argN {α : Type} {r : Rd α} {t : TypeId} {us : Array Value} {d : DataW H} {ps : List MemPlace} (his : r.Is enc P w spare held t) (h : DataW.Trod enc P w 0 spare held t (.agg us) d ps) : ∃ y, r.wf y ∧ AR (lawSig w) w (.agg (r.av y)) (.agg us) := by
  obtain ⟨fuel, h⟩ := h
  obtain ⟨y, hw, hl, ha, _⟩ := his _ _ _ h
  have hl' : us.size = r.sz := by simpa [Value.cells] using hl
  refine ⟨y, hw, .agg us (by rw [r.len y hw]; exact hl') (fun j hj => ?_)⟩
  rw [r.len y hw] at hj
  have := ha j hj
  simpa [Value.cells, List.getD_eq_getElem?_getD] using this
end Go.Abs
