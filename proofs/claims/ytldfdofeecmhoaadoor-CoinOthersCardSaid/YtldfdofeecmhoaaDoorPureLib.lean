/- Small facts on numbers and lists that the pure statements use. No condition beyond each one's own. -/
import Derived.Test.YtldfdofeecmhoaaDoorWWords
import Derived.OpenShut
import Derived.Laws.BitsAllLaws
namespace Go.Proofs.YtldfdofeecmhoaaDoor.PL
open Go.RowKit Go.Proofs.YtldfdofeecmhoaaDoorW.PrintWords
theorem w64 {n : Int} (h0 : -9223372036854775808 ≤ n) (h1 : n ≤ 9223372036854775807) : wrap64 n = n := by unfold wrap64; omega
theorem u8b {n : Int} (h : (Lit.int .u8 n).wf = true) : 0 ≤ n ∧ n ≤ 255 := by
  have := bounds_u8 h
  omega
theorem rd_nat (l : List Int) (i : Nat) (h : i < l.length) : rd l (i : Int) = l[i] := by
  simp [rd, List.getD_eq_getElem?_getD, List.getElem?_eq_getElem h]
theorem u8or0 (x y : Int) (hx : 0 ≤ x ∧ x ≤ 255) (hy : 0 ≤ y ∧ y ≤ 255) : Go.bits .or .u8 x y = 0 ↔ x = 0 ∧ y = 0 := by
  rw [u8_or x y hx.1 (by omega) hy.1 (by omega)]
  constructor
  · intro h
    have h1 : x.toNat ||| y.toNat = 0 := by exact_mod_cast h
    have := Nat.or_eq_zero_iff.1 h1
    omega
  · rintro ⟨rfl, rfl⟩
    rfl
theorem u8xor0 (x y : Int) (hx : 0 ≤ x ∧ x ≤ 255) (hy : 0 ≤ y ∧ y ≤ 255) : Go.bits .xor .u8 x y = 0 ↔ x = y := by
  rw [u8_xor x y hx.1 (by omega) hy.1 (by omega)]
  constructor
  · intro h
    have h1 : x.toNat ^^^ y.toNat = 0 := by exact_mod_cast h
    have h2 : x.toNat ^^^ y.toNat ^^^ y.toNat = y.toNat := by rw [h1, Nat.zero_xor]
    rw [Nat.xor_assoc, Nat.xor_self, Nat.xor_zero] at h2
    omega
  · rintro rfl
    simp
theorem u8or_lt (x y : Int) (hx : 0 ≤ x ∧ x ≤ 255) (hy : 0 ≤ y ∧ y ≤ 255) : 0 ≤ Go.bits .or .u8 x y ∧ Go.bits .or .u8 x y ≤ 255 := by
  rw [u8_or x y hx.1 (by omega) hy.1 (by omega)]
  have : x.toNat ||| y.toNat < 2 ^ 8 := Nat.or_lt_two_pow (by omega) (by omega)
  omega
theorem u8xor_lt (x y : Int) (hx : 0 ≤ x ∧ x ≤ 255) (hy : 0 ≤ y ∧ y ≤ 255) : 0 ≤ Go.bits .xor .u8 x y ∧ Go.bits .xor .u8 x y ≤ 255 := by
  rw [u8_xor x y hx.1 (by omega) hy.1 (by omega)]
  have : x.toNat ^^^ y.toNat < 2 ^ 8 := Nat.xor_lt_two_pow (by omega) (by omega)
  omega
theorem bytes_of_wf {l : List Int} (h : ∀ y ∈ l, (Lit.int .u8 y).wf = true) : ∀ y ∈ l, 0 ≤ y ∧ y ≤ 255 := fun y hy => u8b (h y hy)
theorem strOfNums_toList (l : List Int) : (strOfNums l).data.toList = l.map fun n => UInt8.ofNat n.toNat := by simp [strOfNums]
theorem strOfNums_inj {a b : List Int} (ha : ∀ y ∈ a, 0 ≤ y ∧ y ≤ 255) (hb : ∀ y ∈ b, 0 ≤ y ∧ y ≤ 255) (h : strOfNums a = strOfNums b) : a = b := by
  have h1 : a.map (fun n => UInt8.ofNat n.toNat) = b.map (fun n => UInt8.ofNat n.toNat) := by rw [← strOfNums_toList, ← strOfNums_toList, h]
  clear h
  induction a generalizing b with
  | nil =>
    cases b with
    | nil => rfl
    | cons y b => simp at h1
  | cons x a ih =>
    cases b with
    | nil => simp at h1
    | cons y b =>
      simp only [List.map_cons, List.cons.injEq] at h1
      obtain ⟨h2, h3⟩ := h1
      have hx := ha x (by simp)
      have hy := hb y (by simp)
      have h4 := congrArg UInt8.toNat h2
      simp only [UInt8.toNat_ofNat'] at h4
      have : x = y := by omega
      rw [this, ih (fun z hz => ha z (by simp [hz])) (fun z hz => hb z (by simp [hz])) h3]
theorem toList_inj {a b : ByteArray} : a.toList = b.toList ↔ a = b := by
  constructor
  · intro h
    rw [ByteArray.toList_eq, ByteArray.toList_eq] at h
    exact ByteArray.ext (Array.toList_inj.1 h)
  · rintro rfl
    rfl
end Go.Proofs.YtldfdofeecmhoaaDoor.PL
