/- coin: the parts of a text, plainly. -/
import Derived.Lib.Bytealg
import Derived.WideShapes
namespace Go.Abs.C
set_option linter.unusedSimpArgs false
theorem bext {a b : ByteArray} (h : a.data.toList = b.data.toList) : a = b := WideShapes.bytes_inj h
theorem ext_list (s : ByteArray) (a b : Nat) : (s.extract a b).data.toList = (s.data.toList.take b).drop a := by
  have e : (s.extract a b).data.toList = (s.data.toList.take (a + (b - a))).drop a := by
    simp [ByteArray.data_extract, Array.toList_extract, List.take_drop]
  rw [e]
  by_cases h : a ≤ b
  · rw [show a + (b - a) = b from by omega]
  · rw [List.drop_of_length_le (by rw [List.length_take]; omega), List.drop_of_length_le (by rw [List.length_take]; omega)]
theorem size_list (s : ByteArray) : s.size = s.data.toList.length := by
  cases s
  simp [ByteArray.size]
theorem idx_at (c : UInt8) : ∀ (a b : List UInt8), a.count c = 0 → Lib.indexByte (a ++ c :: b) c = a.length
  | [], b, _ => by simp [Lib.indexByte]
  | x :: a, b, h => by
    have hx : x ≠ c := fun e => by simp [e] at h
    have h2 : a.count c = 0 := by rw [List.count_cons] at h; omega
    have ih := idx_at c a b h2
    rw [List.cons_append]
    unfold Lib.indexByte
    rw [ih]
    have h3 : ((a.length : Int) == -1) = false := by rw [beq_eq_false_iff_ne]; omega
    simp [hx, h3]
theorem dot_split (c : UInt8) : ∀ (l : List UInt8), 0 < l.count c → ∃ a b, l = a ++ c :: b ∧ a.count c = 0
  | [], h => by simp at h
  | x :: l, h => by
    by_cases hx : x = c
    · exact ⟨[], l, by simp [hx], rfl⟩
    · have h2 : 0 < l.count c := by rw [List.count_cons_of_ne hx] at h; exact h
      obtain ⟨a, b, e, h3⟩ := dot_split c l h2
      exact ⟨x :: a, b, by rw [e]; rfl, by rw [List.count_cons_of_ne hx, h3]⟩
def nd (s : ByteArray) : Nat := Lib.countByte s.data.toList 46
def ix (s : ByteArray) : Int := Lib.indexByte s.data.toList 46
/-- A text's parts between dots. -/
def gs : Nat → ByteArray → List ByteArray
  | 0, s => [s]
  | k + 1, s => s.extract 0 (ix s).toNat :: gs k (s.extract ((ix s).toNat + 1) s.size)
theorem gs_length : ∀ (k : Nat) (s : ByteArray), (gs k s).length = k + 1
  | 0, s => rfl
  | k + 1, s => by simp [gs, gs_length k]
def splitP (s : ByteArray) : List ByteArray := gs (nd s) s
theorem splitP_length (s : ByteArray) : (splitP s).length = nd s + 1 := gs_length _ _
/-- Where the first dot is. -/
theorem ix_some (s : ByteArray) (k : Nat) (h : nd s = k + 1) : ∃ m : Nat, ix s = m ∧ m + 1 ≤ s.size ∧ nd (s.extract (m + 1) s.size) = k ∧ (s.extract (m + 1) s.size).size = s.size - (m + 1) := by
  unfold nd Lib.countByte at h
  obtain ⟨a, b, e, h3⟩ := dot_split 46 s.data.toList (by omega)
  have hsz : s.size = a.length + (b.length + 1) := by rw [size_list, e]; simp
  have hx : (s.extract (a.length + 1) s.size).data.toList = b := by
    rw [ext_list, size_list, List.take_length, e, show a ++ 46 :: b = (a ++ [46]) ++ b from by simp, List.drop_append_of_le_length (by simp)]
    simp
  refine ⟨a.length, by unfold ix; rw [e, idx_at _ _ _ h3], by omega, ?_, ?_⟩
  · unfold nd Lib.countByte
    rw [hx]
    rw [e] at h
    simp [h3] at h
    exact h
  · rw [size_list, hx]
    omega
theorem count_zero_of (s : ByteArray) (h : nd s = 0) : splitP s = [s] := by unfold splitP; rw [h]; rfl
/-- One part is ahead of the next dot. -/
theorem part_dot (s : ByteArray) (st i : Nat) (h1 : st ≤ i) (h2 : i < s.size) (h3 : nd (s.extract st i) = 0) (h4 : s.data.toList.getD i 0 = 46) : splitP (s.extract st s.size) = s.extract st i :: splitP (s.extract (i + 1) s.size) := by
  obtain ⟨L, hL⟩ : ∃ L, s.data.toList = L := ⟨_, rfl⟩
  have hsz : s.size = L.length := by rw [size_list, hL]
  have e1 : (s.extract st i).data.toList = (L.take i).drop st := by rw [ext_list, hL]
  have e2 : (s.extract st s.size).data.toList = (L.take i).drop st ++ 46 :: L.drop (i + 1) := by
    rw [ext_list, hL, hsz, List.take_length]
    have hd : L.drop i = 46 :: L.drop (i + 1) := by
      rw [List.drop_eq_getElem_cons (by omega)]
      congr 1
      rw [hL, List.getD_eq_getElem?_getD, List.getElem?_eq_getElem (by omega)] at h4
      simpa using h4
    rw [← hd]
    have : L.drop st = (L.take i ++ L.drop i).drop st := by rw [List.take_append_drop]
    rw [this, List.drop_append_of_le_length (by rw [List.length_take]; omega)]
  have e3 : (s.extract (i + 1) s.size).data.toList = L.drop (i + 1) := by rw [ext_list, hL, hsz, List.take_length]
  have hc : ((L.take i).drop st).count 46 = 0 := by unfold nd Lib.countByte at h3; rwa [e1] at h3
  have hl : ((L.take i).drop st).length = i - st := by rw [List.length_drop, List.length_take]; omega
  have n1 : nd (s.extract st s.size) = nd (s.extract (i + 1) s.size) + 1 := by
    unfold nd Lib.countByte
    rw [e2, e3]
    simp [hc]
  have i1 : ix (s.extract st s.size) = ((i - st : Nat) : Int) := by
    unfold ix
    rw [e2, idx_at _ _ _ hc, hl]
  unfold splitP
  rw [n1]
  show (s.extract st s.size).extract 0 (ix (s.extract st s.size)).toNat :: gs _ ((s.extract st s.size).extract ((ix (s.extract st s.size)).toNat + 1) (s.extract st s.size).size) = _
  rw [i1, Int.toNat_natCast]
  have f1 : (s.extract st s.size).extract 0 (i - st) = s.extract st i := by
    apply bext
    rw [ext_list, e2, e1, List.drop_zero, ← hl, List.take_left]
  have f2 : (s.extract st s.size).extract (i - st + 1) (s.extract st s.size).size = s.extract (i + 1) s.size := by
    apply bext
    rw [ext_list, size_list, List.take_length, e2, e3, show (L.take i).drop st ++ 46 :: L.drop (i + 1) = ((L.take i).drop st ++ [46]) ++ L.drop (i + 1) from by simp]
    rw [List.drop_left' (by simp [hl])]
  rw [f1, f2]
theorem nd_step (s : ByteArray) (st i : Nat) (h1 : st ≤ i) (h2 : i < s.size) (h3 : nd (s.extract st i) = 0) (h4 : s.data.toList.getD i 0 ≠ 46) : nd (s.extract st (i + 1)) = 0 := by
  unfold nd Lib.countByte at *
  rw [ext_list] at *
  have hsz := size_list s
  rw [List.take_add_one, List.drop_append_of_le_length (by rw [List.length_take]; omega), List.count_append, h3]
  rw [List.getD_eq_getElem?_getD] at h4
  rw [List.getElem?_eq_getElem (by omega)] at *
  simp only [Option.getD_some, Option.toList_some, Nat.zero_add] at *
  exact List.count_eq_zero.2 (by simp; exact fun e => h4 e.symm)
theorem nd_nil (s : ByteArray) (i : Nat) : nd (s.extract i i) = 0 := by
  unfold nd Lib.countByte
  rw [ext_list, List.drop_of_length_le (by rw [List.length_take]; omega)]
  rfl
theorem ext_all (s : ByteArray) : s.extract 0 s.size = s := by
  apply bext
  rw [ext_list, size_list, List.take_length, List.drop_zero]
end Go.Abs.C
