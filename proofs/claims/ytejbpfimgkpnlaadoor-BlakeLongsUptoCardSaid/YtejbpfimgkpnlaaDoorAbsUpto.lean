/- What the bound on the bulk of arguments gives. -/
import Derived.Test.YtejbpfimgkpnlaaDoorAbsRead
import Derived.Test.YtejbpfimgkpnlaaDoorRows
namespace Go.Abs
open Go.Proofs.YtejbpfimgkpnlaaDoor (Rows.uptoBulk Rows.uptoBulkAll Rows.uptoSmall)
set_option linter.unusedVariables false
theorem bulk_one {H : Type} (d : DataW H) : 1 ≤ Rows.uptoBulk d := by
  cases d with
  | lit l => cases l <;> simp [Rows.uptoBulk]
  | nil => simp [Rows.uptoBulk]
  | ptr d => simp [Rows.uptoBulk]
  | slice elems spare => simp [Rows.uptoBulk]
  | agg parts => simp [Rows.uptoBulk]
  | iface t d => simp [Rows.uptoBulk]
  | map entries => simp [Rows.uptoBulk]
  | held h => simp [Rows.uptoBulk]
theorem bulk_len {H : Type} : ∀ (l : List (DataW H)), l.length ≤ Rows.uptoBulkAll l
  | [] => Nat.zero_le _
  | x :: r => by
    have := bulk_one x
    have := bulk_len r
    simp only [Rows.uptoBulkAll, List.length_cons]
    omega
theorem bulk_mem {H : Type} {d : DataW H} : ∀ {l : List (DataW H)}, d ∈ l → Rows.uptoBulk d ≤ Rows.uptoBulkAll l
  | [], h => by cases h
  | x :: r, h => by
    simp only [Rows.uptoBulkAll]
    rcases List.mem_cons.1 h with rfl | h
    · omega
    · have := bulk_mem h
      omega
/-- Rows whose sizes the data bound: their sizes' sum is bounded. -/
theorem bulk_sum {H : Type} {α : Type} (f : α → Nat) (dat : α → DataW H → Prop) (hf : ∀ y d, dat y d → f y ≤ Rows.uptoBulk d) : ∀ (l : List α) (els : List (DataW H)), els.length = l.length → (∀ i, i < l.length → ∃ y e, l[i]? = some y ∧ els[i]? = some e ∧ dat y e) → (l.map f).sum ≤ Rows.uptoBulkAll els
  | [], els, _, _ => by simp
  | y :: l, [], h, _ => by simp at h
  | y :: l, e :: els, h, hd => by
    obtain ⟨y', e', h1, h2, h3⟩ := hd 0 (by simp)
    simp only [List.getElem?_cons_zero, Option.some.injEq] at h1 h2
    subst h1 h2
    have h4 := hf _ _ h3
    have h5 := bulk_sum f dat hf l els (by simpa using h) fun i hi => by simpa using hd (i + 1) (by simpa using hi)
    simp only [List.map_cons, List.sum_cons, Rows.uptoBulkAll]
    omega
theorem bulk_row {H : Type} {k : IntKind} {l : List Int} {d : DataW H} (h : (Rd.int k).slice.dat l d) : l.length ≤ Rows.uptoBulk d := by
  rcases h with rfl | ⟨els, sp, rfl, hl, _⟩
  · exact Nat.zero_le _
  · have := bulk_len els
    simp only [Rows.uptoBulk]
    omega
theorem bulk_rows {H : Type} {k : IntKind} {rs : List (List Int)} {d : DataW H} (h : (Rd.int k).slice.slice.dat rs d) : rs.flatten.length ≤ Rows.uptoBulk d := by
  rcases h with rfl | ⟨els, sp, rfl, hl, hd⟩
  · exact Nat.zero_le _
  · have := bulk_sum List.length _ (fun y d h => bulk_row h) rs els hl hd
    simp only [Rows.uptoBulk]
    rw [List.length_flatten]
    omega
theorem bulk_rowsN {H : Type} {k : IntKind} {rs : List (List Int)} {d : DataW H} (h : (Rd.int k).slice.slice.dat rs d) : rs.length ≤ Rows.uptoBulk d := by
  rcases h with rfl | ⟨els, sp, rfl, hl, hd⟩
  · exact Nat.zero_le _
  · have := bulk_len els
    simp only [Rows.uptoBulk]
    omega
theorem bulk_bound {H : Type} {l : List (DataW H)} (hk : Rows.uptoSmall H l = true) : Rows.uptoBulkAll l ≤ 1048576 := of_decide_eq_true hk
end Go.Abs
