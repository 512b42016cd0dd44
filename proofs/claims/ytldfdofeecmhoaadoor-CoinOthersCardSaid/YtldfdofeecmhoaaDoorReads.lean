/- What an argument that reads as data is to the walk: numbers, texts and slices, nested, as the rows that the contracts ask for. Condition: the argument reads as data in the world. -/
import Derived.Test.YtldfdofeecmhoaaDoorWWords
import Derived.Deep.Slices
import Derived.ProofKit
namespace Go.Proofs.YtldfdofeecmhoaaDoor.Reads
open Go.RowKit Go.Deep Go.Proofs.YtldfdofeecmhoaaDoorW.PrintWords
set_option linter.unusedVariables false
set_option linter.unusedSimpArgs false
variable {H : Type} {enc : TypeId × Value → H} {P : Program} {w : World} {spare : Nat → Bool} {held : Bool}
/-- Whatever reads at type t is of kind d, and meets wf. -/
def Is (enc : TypeId × Value → H) (P : Program) (w : World) (spare : Nat → Bool) (held : Bool) {α : Type} (d : Kd α) (t : TypeId) (wf : α → Prop) : Prop :=
  ∀ fuel cs x, DataW.trod enc P w 0 spare held fuel t cs = some x → ∃ y, d.K w y cs ∧ wf y
theorem int_is {k : IntKind} {t : TypeId} (ht : P.underlying t = some (.int k)) : Is enc P w spare held (Kd.int k) t (fun y => (Lit.int k y).wf = true) := by
  intro fuel cs x h
  obtain ⟨n, rfl, _, hw⟩ := DataW.trod_int ht h
  exact ⟨n, rfl, hw⟩
theorem bool_is {t : TypeId} (ht : P.underlying t = some .bool) : Is enc P w spare held Kd.bool t (fun _ => True) := by
  intro fuel cs x h
  obtain ⟨n, rfl, _⟩ := DataW.trod_bool ht h
  exact ⟨n, rfl, trivial⟩
theorem string_is {t : TypeId} (ht : P.underlying t = some .string) : Is enc P w spare held Kd.string t (fun s => s.size ≤ maxLen) := by
  intro fuel cs x h
  obtain ⟨n, rfl, _, hw⟩ := DataW.trod_string ht h
  exact ⟨n, rfl, hw⟩
theorem add_add' (a : Addr) (m n : Nat) : a.add (m + n) = (a.add m).add n := by
  unfold Addr.add
  by_cases h1 : m = 0 <;> by_cases h2 : n = 0 <;> simp [h1, h2]
  omega
theorem slice_is {α : Type} [Inhabited α] {d : Kd α} {e t : TypeId} {wf : α → Prop} (ht : P.underlying t = some (.slice e)) (hsz : P.cellsOf e = d.sz) (hel : Is enc P w spare held d e wf) :
    Is enc P w spare held (Kd.slice e d) t (fun l => l.length ≤ maxLen ∧ ∀ y ∈ l, wf y) := by
  intro fuel cs x h
  rcases open_slice ht h with ⟨rfl, _⟩ | ⟨a, len, cap, m, n, D, Pl, rfl, _, hl, hm, hmm, _, hx⟩
  · exact ⟨[], ⟨none, 0, rfl, Nat.le_refl _, rfl, by simp, by simp⟩, by simp⟩
  · have hlm : len ≤ m := by rw [hmm]; split <;> omega
    have hc : ∀ i, i < len → ∃ y c, c.length = d.sz ∧ d.K w y c ∧ wf y ∧ ∀ j u, c[j]? = some u → w.cell? (a.add (i * d.sz + j)) = some u := by
      intro i hi
      obtain ⟨cs', h1, h2⟩ := hx i (by omega)
      obtain ⟨y, hy, hw⟩ := hel _ _ _ h2
      obtain ⟨_, hlen, hcell⟩ := World.cells?_some h1
      refine ⟨y, cs', d.K_len hy, hy, hw, fun j u hj => ?_⟩
      have hj' : j < P.cellsOf e := by
        have := (List.getElem?_eq_some_iff.1 hj).1
        omega
      have := hcell j hj'
      rw [← hsz, show a.add (i * P.cellsOf e + j) = (a.add (i * P.cellsOf e)).add j from add_add' _ _ _]
      rw [this, hj]
    obtain ⟨V, hV⟩ := choose_lt (α := α) (p := fun i y => ∃ c, c.length = d.sz ∧ d.K w y c ∧ wf y ∧ ∀ j u, c[j]? = some u → w.cell? (a.add (i * d.sz + j)) = some u) hc
    refine ⟨(List.range len).map V, ⟨some a, cap, by simp, by simpa using hl, by simp, by unfold maxLen at hm; simp; omega, fun _ => ⟨a, rfl, ?_⟩⟩, by simp; omega, ?_⟩
    · intro j p hj
      simp only [List.getElem?_map, Option.map_eq_some_iff] at hj
      obtain ⟨i, hi, rfl⟩ := hj
      obtain ⟨hlt, rfl⟩ := List.getElem?_eq_some_iff.1 hi
      simp at hlt ⊢
      obtain ⟨c, h1, h2, _, h4⟩ := hV j hlt
      exact ⟨c, h1, h2, h4⟩
    · intro y hy
      simp only [List.mem_map, List.mem_range] at hy
      obtain ⟨i, hi, rfl⟩ := hy
      exact (hV i hi).choose_spec.2.2.1
/-- A slice argument. -/
theorem slice_arg {α : Type} [Inhabited α] {d : Kd α} {e t : TypeId} {wf : α → Prop} (ht : P.underlying t = some (.slice e)) (hsz : P.cellsOf e = d.sz) (hel : Is enc P w spare held d e wf) {v : Value} {x : DataW H} {ps : List MemPlace}
    (h : DataW.Trod enc P w 0 spare held t v x ps) (hv : ∃ a len cap, v = .slice a len cap) : ∃ (A : Option Addr) (c : Nat) (l : List α), v = .slice A l.length c ∧ l.length ≤ c ∧ d.C w A l.length l ∧ l.length ≤ maxLen ∧ ∀ y ∈ l, wf y := by
  obtain ⟨fuel, hf⟩ := h
  obtain ⟨a, len, cap, rfl⟩ := hv
  obtain ⟨l, ⟨A, c, hc, h1, h2⟩, h3, h4⟩ := slice_is ht hsz hel fuel _ _ hf
  simp [Value.cells] at hc
  obtain ⟨rfl, rfl, rfl⟩ := hc
  exact ⟨_, _, l, rfl, h1, h2, h3, h4⟩
end Go.Proofs.YtldfdofeecmhoaaDoor.Reads
