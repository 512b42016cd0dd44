/- chacha's stirring, as plain functions of lists of words. -/
import Derived.Laws.BitsLemmas
import Derived.Laws.BitsAllLaws
namespace Go.Proofs.Ytajkjhioihdncaa.Ext
set_option linter.unusedVariables false
set_option linter.unusedSimpArgs false
def rot32 (x : Int) (n : Nat) : Int := x % 2 ^ (32 - n) * 2 ^ n + x / 2 ^ (32 - n)
def xorI (x y : Int) : Int := ((x.toNat ^^^ y.toNat : Nat) : Int)
def add32 (x y : Int) : Int := (x + y) % 4294967296
def U32 (x : Int) : Prop := 0 ≤ x ∧ x < 4294967296
def W32 (l : List Int) : Prop := ∀ x ∈ l, U32 x
def turnN (n : Nat) : Prop := n = 16 ∨ n = 12 ∨ n = 8 ∨ n = 7
def stepA (l : List Int) (i j : Nat) : List Int := l.set i (add32 (l.getD i 0) (l.getD j 0))
def stepD (l : List Int) (i d n : Nat) : List Int := l.set d (rot32 (xorI (l.getD d 0) (l.getD i 0)) n)
def step (l : List Int) (i j d n : Nat) : List Int := stepD (stepA l i j) i d n
def quarter (l : List Int) (a b c d : Nat) : List Int := step (step (step (step l a b d 16) c d b 12) a b d 8) c d b 7
theorem xor_lt {a b : Nat} (ha : a < 4294967296) (hb : b < 4294967296) : a ^^^ b < 4294967296 := Nat.xor_lt_two_pow (n := 32) ha hb
theorem U32.add (x y : Int) : U32 (add32 x y) := by unfold U32 add32; omega
theorem U32.xor {x y : Int} (hx : U32 x) (hy : U32 y) : U32 (xorI x y) := by
  unfold U32 xorI at *
  have := xor_lt (a := x.toNat) (b := y.toNat) (by omega) (by omega)
  omega
theorem U32.rot {x : Int} (hx : U32 x) {n : Nat} (hn : turnN n) : U32 (rot32 x n) := by
  unfold U32 rot32 turnN at *
  rcases hn with rfl | rfl | rfl | rfl <;> omega
theorem W32.get {l : List Int} (h : W32 l) (i : Nat) : U32 (l.getD i 0) := by
  rw [List.getD_eq_getElem?_getD]
  cases hq : l[i]? with
  | none => exact ⟨by simp, by simp⟩
  | some v => exact h v (List.mem_of_getElem? hq)
theorem W32.set {l : List Int} (h : W32 l) (i : Nat) {x : Int} (hx : U32 x) : W32 (l.set i x) := by
  intro y hy
  rcases List.mem_or_eq_of_mem_set hy with h1 | rfl
  · exact h y h1
  · exact hx
theorem W32.stepA {l : List Int} (h : W32 l) (i j : Nat) : W32 (stepA l i j) := h.set i (U32.add _ _)
theorem W32.stepD {l : List Int} (h : W32 l) (i d : Nat) {n : Nat} (hn : turnN n) : W32 (stepD l i d n) := h.set d (((h.get d).xor (h.get i)).rot hn)
theorem W32.step {l : List Int} (h : W32 l) (i j d : Nat) {n : Nat} (hn : turnN n) : W32 (step l i j d n) := (h.stepA i j).stepD i d hn
theorem W32.quarter {l : List Int} (h : W32 l) (a b c d : Nat) : W32 (quarter l a b c d) :=
  (((h.step _ _ _ (.inl rfl)).step _ _ _ (.inr (.inl rfl))).step _ _ _ (.inr (.inr (.inl rfl)))).step _ _ _ (.inr (.inr (.inr rfl)))
theorem stepA_length (l : List Int) (i j : Nat) : (stepA l i j).length = l.length := List.length_set
theorem stepD_length (l : List Int) (i d n : Nat) : (stepD l i d n).length = l.length := List.length_set
theorem step_length (l : List Int) (i j d n : Nat) : (step l i j d n).length = l.length := (stepD_length _ _ _ _).trans (stepA_length _ _ _)
theorem quarter_length (l : List Int) (a b c d : Nat) : (quarter l a b c d).length = l.length := by simp [quarter, step_length]
def cols (l : List Int) : Nat → List Int
  | 0 => l
  | k + 1 => quarter (cols l k) k (4 + k) (8 + k) (12 + k)
def diags (l : List Int) : Nat → List Int
  | 0 => l
  | k + 1 => quarter (diags l k) k (4 + (k + 1) % 4) (8 + (k + 2) % 4) (12 + (k + 3) % 4)
def stirN (l : List Int) : Nat → List Int
  | 0 => l
  | k + 1 => diags (cols (stirN l k) 4) 4
def stir (l : List Int) : List Int := stirN l 10
theorem cols_length (l : List Int) (k : Nat) : (cols l k).length = l.length := by induction k with | zero => rfl | succ k ih => simp [cols, quarter_length, ih]
theorem diags_length (l : List Int) (k : Nat) : (diags l k).length = l.length := by induction k with | zero => rfl | succ k ih => simp [diags, quarter_length, ih]
theorem stirN_length (l : List Int) (k : Nat) : (stirN l k).length = l.length := by induction k with | zero => rfl | succ k ih => simp [stirN, diags_length, cols_length, ih]
theorem W32.cols {l : List Int} (h : W32 l) (k : Nat) : W32 (cols l k) := by induction k with | zero => exact h | succ k ih => exact ih.quarter _ _ _ _
theorem W32.diags {l : List Int} (h : W32 l) (k : Nat) : W32 (diags l k) := by induction k with | zero => exact h | succ k ih => exact ih.quarter _ _ _ _
theorem W32.stirN {l : List Int} (h : W32 l) (k : Nat) : W32 (stirN l k) := by induction k with | zero => exact h | succ k ih => exact (ih.cols 4).diags 4
def four (x : Int) : List Int := [x % 256, x / 256 % 256, x / 65536 % 256, x / 16777216]
def bytesOf (l : List Int) : List Int := l.flatMap four
theorem bytesOf_length (l : List Int) : (bytesOf l).length = 4 * l.length := by
  induction l with
  | nil => rfl
  | cons x r ih =>
    have : bytesOf (x :: r) = four x ++ bytesOf r := by simp [bytesOf]
    rw [this, List.length_append, ih]
    simp [four]
    omega
theorem bytesOf_step (l : List Int) (k : Nat) (h : k < l.length) : bytesOf (l.take (k + 1)) = bytesOf (l.take k) ++ four l[k] := by
  unfold bytesOf
  rw [List.take_succ_eq_append_getElem h, List.flatMap_append, List.flatMap_singleton]
def B8 (l : List Int) : Prop := ∀ x ∈ l, 0 ≤ x ∧ x ≤ 255
theorem B8.get {l : List Int} (h : B8 l) (i : Nat) : 0 ≤ l.getD i 0 ∧ l.getD i 0 ≤ 255 := by
  rw [List.getD_eq_getElem?_getD]
  cases hq : l[i]? with
  | none => exact ⟨by simp, by simp⟩
  | some v => exact h v (List.mem_of_getElem? hq)
/-- Byte i of the first n. -/
def byN (T : List Int) (n i : Nat) : Int := if i < n then T.getD i 0 else 0
/-- Word j of the first n bytes. -/
def pw (T : List Int) (n j : Nat) : Int := byN T n (4 * j) + 256 * byN T n (4 * j + 1) + 65536 * byN T n (4 * j + 2) + 16777216 * byN T n (4 * j + 3)
def fromN (T : List Int) (n : Nat) : List Int := (List.range 16).map (pw T n)
theorem fromN_length (T : List Int) (n : Nat) : (fromN T n).length = 16 := by simp [fromN]
theorem fromN_get (T : List Int) (n j : Nat) (hj : j < 16) : (fromN T n).getD j 0 = pw T n j := by
  simp [fromN, List.getD_eq_getElem?_getD, hj]
theorem byN_range {T : List Int} (h : B8 T) (n i : Nat) : 0 ≤ byN T n i ∧ byN T n i ≤ 255 := by
  unfold byN
  split
  · exact h.get i
  · exact ⟨by decide, by decide⟩
theorem byN_step (T : List Int) (n i : Nat) (h : i ≠ n) : byN T (n + 1) i = byN T n i := by
  unfold byN
  by_cases h1 : i < n
  · rw [if_pos h1, if_pos (by omega)]
  · rw [if_neg h1, if_neg (by omega)]
theorem byN_now (T : List Int) (n : Nat) : byN T n n = 0 := if_neg (Nat.lt_irrefl n)
theorem byN_past (T : List Int) (n i : Nat) (h : n ≤ i) : byN T n i = 0 := if_neg (by omega)
theorem byN_next (T : List Int) (n : Nat) : byN T (n + 1) n = T.getD n 0 := if_pos (Nat.lt_succ_self n)
theorem W32.fromN {T : List Int} (h : B8 T) (n : Nat) : W32 (fromN T n) := by
  intro x hx
  simp only [Ext.fromN, List.mem_map] at hx
  obtain ⟨j, _, rfl⟩ := hx
  unfold U32 pw
  have h0 := byN_range h n (4 * j)
  have h1 := byN_range h n (4 * j + 1)
  have h2 := byN_range h n (4 * j + 2)
  have h3 := byN_range h n (4 * j + 3)
  omega
theorem fromN_zero (T : List Int) : fromN T 0 = List.replicate 16 0 := by
  simp [fromN, pw, byN]
  rfl
theorem pw_other (T : List Int) (n j : Nat) (h : j ≠ n / 4) : pw T (n + 1) j = pw T n j := by
  unfold pw
  rw [byN_step _ _ _ (by omega), byN_step _ _ _ (by omega), byN_step _ _ _ (by omega), byN_step _ _ _ (by omega)]
theorem pw_now {T : List Int} (hb : B8 T) (q r : Nat) (hr : r < 4) : 0 ≤ pw T (4 * q + r) q ∧ pw T (4 * q + r) q < 2 ^ (8 * r) ∧ pw T (4 * q + r + 1) q = pw T (4 * q + r) q + T.getD (4 * q + r) 0 * 2 ^ (8 * r) := by
  unfold pw
  have h0 := byN_range hb (4 * q + r) (4 * q)
  have h1 := byN_range hb (4 * q + r) (4 * q + 1)
  have h2 := byN_range hb (4 * q + r) (4 * q + 2)
  rcases (by omega : r = 0 ∨ r = 1 ∨ r = 2 ∨ r = 3) with rfl | rfl | rfl | rfl
  · rw [byN_past T (4 * q + 0) (4 * q) (by omega), byN_past T (4 * q + 0) (4 * q + 1) (by omega), byN_past T (4 * q + 0) (4 * q + 2) (by omega), byN_past T (4 * q + 0) (4 * q + 3) (by omega)]
    rw [byN_past T (4 * q + 0 + 1) (4 * q + 1) (by omega), byN_past T (4 * q + 0 + 1) (4 * q + 2) (by omega), byN_past T (4 * q + 0 + 1) (4 * q + 3) (by omega), byN_next T (4 * q)]
    simp
  · rw [byN_past T (4 * q + 1) (4 * q + 1) (by omega), byN_past T (4 * q + 1) (4 * q + 2) (by omega), byN_past T (4 * q + 1) (4 * q + 3) (by omega)]
    rw [byN_past T (4 * q + 1 + 1) (4 * q + 2) (by omega), byN_past T (4 * q + 1 + 1) (4 * q + 3) (by omega), byN_next T (4 * q + 1), byN_step T (4 * q + 1) (4 * q) (by omega)]
    refine ⟨by omega, by omega, by omega⟩
  · rw [byN_past T (4 * q + 2) (4 * q + 2) (by omega), byN_past T (4 * q + 2) (4 * q + 3) (by omega)]
    rw [byN_past T (4 * q + 2 + 1) (4 * q + 3) (by omega), byN_next T (4 * q + 2), byN_step T (4 * q + 2) (4 * q) (by omega), byN_step T (4 * q + 2) (4 * q + 1) (by omega)]
    refine ⟨by omega, by omega, by omega⟩
  · rw [byN_past T (4 * q + 3) (4 * q + 3) (by omega)]
    rw [byN_next T (4 * q + 3), byN_step T (4 * q + 3) (4 * q) (by omega), byN_step T (4 * q + 3) (4 * q + 1) (by omega), byN_step T (4 * q + 3) (4 * q + 2) (by omega)]
    refine ⟨by omega, by omega, by omega⟩
theorem fromN_step {T : List Int} (hb : B8 T) (q r : Nat) (hr : r < 4) (hq : q < 16) : fromN T (4 * q + r + 1) = (fromN T (4 * q + r)).set q (pw T (4 * q + r) q + T.getD (4 * q + r) 0 * 2 ^ (8 * r)) := by
  apply List.ext_getElem
  · simp [fromN]
  · intro j h1 h2
    rw [List.getElem_set]
    simp only [fromN, List.getElem_map, List.getElem_range]
    split
    · rename_i h
      subst h
      exact (pw_now hb q r hr).2.2
    · rename_i h
      exact pw_other T _ j (by omega)
def wordsOf (T : List Int) : List Int := fromN T 64
def sigma : List Int := [101, 120, 112, 97, 110, 100, 32, 51, 50, 45, 98, 121, 116, 101, 32, 107]
def startOf (key more : List Int) : List Int := wordsOf (sigma ++ key ++ more)
theorem startOf_length (key more : List Int) : (startOf key more).length = 16 := fromN_length _ _
def addAll (s w : List Int) : List Int := List.zipWith add32 s w
/-- The first k words have been added. -/
def addN (s w : List Int) (k : Nat) : List Int := (addAll s w).take k ++ s.drop k
theorem addAll_length (s w : List Int) (hs : s.length = 16) (hw : w.length = 16) : (addAll s w).length = 16 := by simp [addAll, hs, hw]
theorem addN_length (s w : List Int) (hs : s.length = 16) (hw : w.length = 16) (k : Nat) (hk : k ≤ 16) : (addN s w k).length = 16 := by
  simp [addN, addAll_length s w hs hw, hs]
  omega
theorem addN_zero (s w : List Int) : addN s w 0 = s := by simp [addN]
theorem addN_all (s w : List Int) (hs : s.length = 16) (hw : w.length = 16) : addN s w 16 = addAll s w := by
  unfold addN
  rw [List.take_of_length_le (by rw [addAll_length s w hs hw]; exact Nat.le_refl _), List.drop_of_length_le (by rw [hs]; exact Nat.le_refl _), List.append_nil]
theorem addN_get (s w : List Int) (hs : s.length = 16) (hw : w.length = 16) (k : Nat) (hk : k < 16) : (addN s w k).getD k 0 = s.getD k 0 := by
  unfold addN
  rw [List.getD_eq_getElem?_getD, List.getD_eq_getElem?_getD, List.getElem?_append_right (by rw [List.length_take]; omega), List.length_take, addAll_length s w hs hw, List.getElem?_drop]
  congr 2
  omega
theorem addN_step (s w : List Int) (hs : s.length = 16) (hw : w.length = 16) (k : Nat) (hk : k < 16) : addN s w (k + 1) = (addN s w k).set k (add32 (s.getD k 0) (w.getD k 0)) := by
  apply List.ext_getElem?
  intro j
  unfold addN
  have hA := addAll_length s w hs hw
  rw [List.getElem?_set]
  rcases Nat.lt_trichotomy j k with h | h | h
  · rw [if_neg (by omega), List.getElem?_append_left (by rw [List.length_take]; omega), List.getElem?_append_left (by rw [List.length_take]; omega), List.getElem?_take, List.getElem?_take, if_pos (by omega), if_pos h]
  · subst h
    rw [if_pos rfl, if_pos (by simp [hA, hs]; omega), List.getElem?_append_left (by rw [List.length_take]; omega), List.getElem?_take, if_pos (by omega)]
    simp [addAll, List.getD_eq_getElem?_getD, hs, hw, hk]
  · rw [if_neg (by omega), List.getElem?_append_right (by rw [List.length_take]; omega), List.getElem?_append_right (by rw [List.length_take]; omega), List.length_take, List.length_take, List.getElem?_drop, List.getElem?_drop]
    congr 1
    omega
theorem W32.addAll (s w : List Int) : W32 (addAll s w) := by
  intro x hx
  simp only [Ext.addAll, List.mem_iff_getElem, List.getElem_zipWith] at hx
  obtain ⟨j, _, rfl⟩ := hx
  exact U32.add _ _
theorem B8.bytesOf {l : List Int} (h : W32 l) : B8 (bytesOf l) := by
  intro x hx
  simp only [Ext.bytesOf, List.mem_flatMap] at hx
  obtain ⟨y, hy, hx⟩ := hx
  have := h y hy
  unfold U32 at this
  simp only [four, List.mem_cons, List.not_mem_nil, or_false] at hx
  rcases hx with rfl | rfl | rfl | rfl <;> omega
def blockP (key more : List Int) : List Int := bytesOf (addAll (stir (startOf key more)) (startOf key more))
def shortP (key more : List Int) : List Int := (bytesOf (stir (startOf key more))).take 16 ++ (bytesOf (stir (startOf key more))).drop 48
theorem W32.words {T : List Int} (h : B8 T) : W32 (wordsOf T) := W32.fromN h 64
theorem B8.append {a b : List Int} (ha : B8 a) (hb : B8 b) : B8 (a ++ b) := fun x hx => by
  rcases List.mem_append.1 hx with h | h
  · exact ha x h
  · exact hb x h
theorem B8.sigma : B8 sigma := by
  intro x hx
  simp [Ext.sigma] at hx
  omega
end Go.Proofs.Ytajkjhioihdncaa.Ext
