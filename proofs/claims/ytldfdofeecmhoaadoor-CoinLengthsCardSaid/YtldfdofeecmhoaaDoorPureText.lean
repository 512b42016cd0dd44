/- The signs of base 64: three bytes make four signs, so texts of whole threes stand one behind the other. -/
import Derived.Test.YtldfdofeecmhoaaDoorCoinText
import Derived.Test.YtldfdofeecmhoaaDoorPureLib
namespace Go.Proofs.YtldfdofeecmhoaaDoor.Ext
open Go.RowKit Go.Proofs.YtldfdofeecmhoaaDoorW.PrintWords PL
set_option linter.unusedSimpArgs false
def held1 (x : Int) : Nat := 0 * 256 + x.toNat
def held2 (x y : Int) : Nat := held1 x % 2 ^ 2 * 256 + y.toNat
def held3 (x y z : Int) : Nat := held2 x y % 2 ^ 4 * 256 + z.toNat
def four (sg : List UInt8) (x y z : Int) : List UInt8 := [sg.getD (held1 x / 2 ^ 2) 0, sg.getD (held2 x y / 2 ^ 4) 0, sg.getD (held3 x y z / 2 ^ 6) 0, sg.getD (held3 x y z % 2 ^ 6 / 2 ^ 0) 0]
theorem enc3 (sg : List UInt8) (x y z : Int) (r : List Int) : encLoop sg 6 (x :: y :: z :: r) 0 0 = four sg x y z ++ encLoop sg 6 r 0 0 := by
  have d1 : drain sg 6 (0 * 256 + x.toNat) (0 + 8) = (held1 x % 2 ^ 2, 2, [sg.getD (held1 x / 2 ^ 2) 0]) := by
    rw [drain_step sg 6 _ (0 + 8) (by decide) (by decide), drain_stop sg 6 _ (0 + 8 - 6) (by decide)]
    rfl
  have d2 : drain sg 6 (held1 x % 2 ^ 2 * 256 + y.toNat) (2 + 8) = (held2 x y % 2 ^ 4, 4, [sg.getD (held2 x y / 2 ^ 4) 0]) := by
    rw [drain_step sg 6 _ (2 + 8) (by decide) (by decide), drain_stop sg 6 _ (2 + 8 - 6) (by decide)]
    rfl
  have d3 : drain sg 6 (held2 x y % 2 ^ 4 * 256 + z.toNat) (4 + 8) = (0, 0, [sg.getD (held3 x y z / 2 ^ 6) 0, sg.getD (held3 x y z % 2 ^ 6 / 2 ^ 0) 0]) := by
    rw [drain_step sg 6 _ (4 + 8) (by decide) (by decide), drain_step sg 6 _ (4 + 8 - 6) (by decide) (by decide), drain_stop sg 6 _ (4 + 8 - 6 - 6) (by decide)]
    simp only [Nat.reduceAdd, Nat.reduceSub, Nat.pow_zero, Nat.mod_one]
    rfl
  simp only [encLoop]
  rw [d1]
  simp only []
  rw [d2]
  simp only []
  rw [d3]
  rfl
theorem enc_app (sg : List UInt8) (b : List Int) : ∀ (n : Nat) (a : List Int), a.length = 3 * n → encLoop sg 6 (a ++ b) 0 0 = encLoop sg 6 a 0 0 ++ encLoop sg 6 b 0 0 ∧ (encLoop sg 6 a 0 0).length = 4 * n
  | 0, a, h => by
    obtain rfl : a = [] := List.eq_nil_of_length_eq_zero (by omega)
    simp [encLoop]
  | n + 1, a, h => by
    match a, h with
    | x :: y :: z :: r, h =>
      have := enc_app sg b n r (by simp at h; omega)
      rw [List.cons_append, List.cons_append, List.cons_append, enc3, enc3, this.1]
      refine ⟨(List.append_assoc _ _ _).symm, ?_⟩
      rw [List.length_append, this.2]
      simp [four]
      omega
theorem enc_rest (sg : List UInt8) (b : List Int) (h : b.length < 3) : (encLoop sg 6 b 0 0).length = if b.length = 0 then 0 else b.length + 1 := by
  match b, h with
  | [], _ => simp [encLoop]
  | [x], _ =>
    simp only [encLoop]
    rw [drain_step sg 6 _ (0 + 8) (by decide) (by decide), drain_stop sg 6 _ (0 + 8 - 6) (by decide)]
    simp
  | [x, y], _ =>
    simp only [encLoop]
    rw [drain_step sg 6 _ (0 + 8) (by decide) (by decide), drain_stop sg 6 _ (0 + 8 - 6) (by decide)]
    simp only []
    rw [drain_step sg 6 _ (0 + 8 - 6 + 8) (by decide) (by decide), drain_stop sg 6 _ (0 + 8 - 6 + 8 - 6) (by decide)]
    simp
theorem enc_len (sg : List UInt8) (b : List Int) : (encLoop sg 6 b 0 0).length = b.length / 3 * 4 + if b.length % 3 = 0 then 0 else b.length % 3 + 1 := by
  have h1 : b = b.take (b.length / 3 * 3) ++ b.drop (b.length / 3 * 3) := (List.take_append_drop _ _).symm
  have h2 : (b.take (b.length / 3 * 3)).length = 3 * (b.length / 3) := by rw [List.length_take]; omega
  have h3 : (b.drop (b.length / 3 * 3)).length = b.length % 3 := by rw [List.length_drop]; omega
  have h4 := enc_app sg (b.drop (b.length / 3 * 3)) _ _ h2
  rw [← h1] at h4
  rw [h4.1, List.length_append, h4.2, enc_rest sg _ (by omega), h3]
  omega
theorem text_len (b : List Int) : (text64 b).length = b.length / 3 * 4 + if b.length % 3 = 0 then 0 else b.length % 3 + 1 := enc_len _ b
theorem isBytes_of {l : List Int} (h : ∀ y ∈ l, 0 ≤ y ∧ y ≤ 255) : isBytes l = true := by
  unfold isBytes
  rw [List.all_eq_true]
  intro x hx
  have := h x hx
  simp [this.1, this.2]
theorem text_f (l : List Int) (h : ∀ y ∈ l, 0 ≤ y ∧ y ≤ 255) (hl : l.length ≤ 1000000) : coin_Text.f l = some ⟨(text64 l).toArray⟩ := by
  unfold coin_Text.f
  rw [if_pos ⟨isBytes_of h, by omega, by rw [text_len]; split <;> omega⟩]
end Go.Proofs.YtldfdofeecmhoaaDoor.Ext
