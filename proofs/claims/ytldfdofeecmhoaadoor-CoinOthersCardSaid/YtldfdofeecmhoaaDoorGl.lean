/- What the listed package-level variables hold, as cells of a world; it stays while a call makes memory of its own. -/
import Derived.Test.YtldfdofeecmhoaaDoorWWords
namespace Go.Proofs.YtldfdofeecmhoaaDoor.Ext
open Go.RowKit Go.Proofs.YtldfdofeecmhoaaDoorW.PrintWords
def signsB : ByteArray := ⟨#[65, 66, 67, 68, 69, 70, 71, 72, 73, 74, 75, 76, 77, 78, 79, 80, 81, 82, 83, 84, 85, 86, 87, 88, 89, 90, 97, 98, 99, 100, 101, 102, 103, 104, 105, 106, 107, 108, 109, 110, 111, 112, 113, 114, 115, 116, 117, 118, 119, 120, 121, 122, 48, 49, 50, 51, 52, 53, 54, 55, 56, 57, 45, 95]⟩
def cells_escutcheon_coin_base : List Value := [.string signsB, .int .i64 6]
/-- The cells. -/
def GL (w : World) : Prop :=
  (∀ i, i < 2 → w.cell? ⟨0, i, none⟩ = cells_escutcheon_coin_base[i]?)
theorem GL.below {w w' : World} (h : GL w) (hb : Below w.heap.size w w') : GL w' := by
  unfold GL at *
  intro i hi
  have h1 := h i hi
  rw [List.getElem?_eq_getElem (show i < cells_escutcheon_coin_base.length from hi)] at h1 ⊢
  exact pw_cell_below hb h1
theorem GL.drewN {w : World} (h : GL w) (n : Nat) : GL (w.drewN n) := h.below (pw_below_drewN (Below.refl _ _) n)
theorem GL.of {w : World}
  (c1 : ∀ i, w.cell? ⟨0, i, none⟩ = cells_escutcheon_coin_base[i]?)
    : GL w := by
  unfold GL
  exact fun i _ => c1 i
theorem GL.base0 {w : World} (h : GL w) : w.cell? ⟨0, 0, none⟩ = some (.string signsB) := h 0 (by decide)
theorem GL.base1 {w : World} (h : GL w) : w.cell? ⟨0, 1, none⟩ = some (.int .i64 6) := h 1 (by decide)
end Go.Proofs.YtldfdofeecmhoaaDoor.Ext
