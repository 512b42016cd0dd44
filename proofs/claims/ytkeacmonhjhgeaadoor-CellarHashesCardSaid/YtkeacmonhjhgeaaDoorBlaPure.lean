/- blake's sums, as plain functions of lists of numbers. -/
import Derived.Test.YtkeacmonhjhgeaaDoorAbsKit
import Derived.Laws.BitsLemmas
import Derived.Laws.BitsAllLaws
namespace Go.Abs.B
set_option linter.unusedVariables false
set_option linter.unusedSimpArgs false
set_option maxRecDepth 100000
def U64 (x : Int) : Prop := 0 ≤ x ∧ x < 18446744073709551616
def W64 (l : List Int) : Prop := ∀ x ∈ l, U64 x
def rotr (x : Int) (n : Nat) : Int := x / 2 ^ n + x % 2 ^ n * 2 ^ (64 - n)
def xor64 (x y : Int) : Int := ((x.toNat ^^^ y.toNat : Nat) : Int)
def m64 (x : Int) : Int := x % 18446744073709551616
theorem U64.m (x : Int) : U64 (m64 x) := by unfold U64 m64; omega
theorem m64_id {x : Int} (h : U64 x) : m64 x = x := by unfold U64 at h; unfold m64; omega
theorem U64.xor {x y : Int} (hx : U64 x) (hy : U64 y) : U64 (xor64 x y) := by
  unfold U64 xor64 at *
  have : x.toNat ^^^ y.toNat < 2 ^ 64 := Nat.xor_lt_two_pow (by omega) (by omega)
  omega
def TurnN (n : Nat) : Prop := n = 32 ∨ n = 24 ∨ n = 16 ∨ n = 63
theorem U64.rot {x : Int} (hx : U64 x) {n : Nat} (hn : TurnN n) : U64 (rotr x n) := by
  unfold U64 rotr at *
  rcases hn with rfl | rfl | rfl | rfl <;> simp only [Nat.reduceSub, Int.reducePow] <;> omega
theorem W64.get {l : List Int} (h : W64 l) (i : Nat) : U64 (l.getD i 0) := by
  rw [List.getD_eq_getElem?_getD]
  cases hq : l[i]? with
  | none => exact ⟨by simp, by simp⟩
  | some v => exact h v (List.mem_of_getElem? hq)
theorem W64.set {l : List Int} (h : W64 l) (i : Nat) {x : Int} (hx : U64 x) : W64 (l.set i x) := by
  intro y hy
  rcases List.mem_or_eq_of_mem_set hy with h1 | rfl
  · exact h y h1
  · exact hx
theorem W64.append {a b : List Int} (ha : W64 a) (hb : W64 b) : W64 (a ++ b) := fun x hx => (List.mem_append.1 hx).elim (ha x) (hb x)
/-- v[a] += v[b] + x -/
def gA (v : List Int) (a b : Nat) (x : Int) : List Int := v.set a (m64 (v.getD a 0 + v.getD b 0 + x))
/-- v[d] = (v[d] ^ v[a]) turned -/
def gD (v : List Int) (d a n : Nat) : List Int := v.set d (rotr (xor64 (v.getD d 0) (v.getD a 0)) n)
/-- v[c] += v[d] -/
def gC (v : List Int) (c d : Nat) : List Int := v.set c (m64 (v.getD c 0 + v.getD d 0))
def gmix (v : List Int) (a b c d : Nat) (x y : Int) : List Int :=
  gD (gC (gD (gA (gD (gC (gD (gA v a b x) d a 32) c d) b c 24) a b y) d a 16) c d) b c 63
theorem gA_length (v : List Int) (a b : Nat) (x : Int) : (gA v a b x).length = v.length := List.length_set
theorem gD_length (v : List Int) (a b n : Nat) : (gD v a b n).length = v.length := List.length_set
theorem gC_length (v : List Int) (a b : Nat) : (gC v a b).length = v.length := List.length_set
theorem gmix_length (v : List Int) (a b c d : Nat) (x y : Int) : (gmix v a b c d x y).length = v.length := by simp [gmix, gA_length, gD_length, gC_length]
theorem W64.gA {v : List Int} (h : W64 v) (a b : Nat) (x : Int) : W64 (gA v a b x) := h.set a (U64.m _)
theorem W64.gC {v : List Int} (h : W64 v) (c d : Nat) : W64 (gC v c d) := h.set c (U64.m _)
theorem W64.gD {v : List Int} (h : W64 v) (d a : Nat) {n : Nat} (hn : TurnN n) : W64 (gD v d a n) := h.set d (((h.get d).xor (h.get a)).rot hn)
theorem W64.gmix {v : List Int} (h : W64 v) (a b c d : Nat) (x y : Int) : W64 (gmix v a b c d x y) :=
  (((((((h.gA a b x).gD d a (.inl rfl)).gC c d).gD b c (.inr (.inl rfl))).gA a b y).gD d a (.inr (.inr (.inl rfl)))).gC c d).gD b c (.inr (.inr (.inr rfl)))
/-- Bytes, the lowest first, as a number. -/
def le : List Int → Int
  | [] => 0
  | c :: r => c + 256 * le r
def B8 (l : List Int) : Prop := ∀ x ∈ l, 0 ≤ x ∧ x ≤ 255
theorem B8.get {l : List Int} (h : B8 l) (i : Nat) : 0 ≤ l.getD i 0 ∧ l.getD i 0 ≤ 255 := by
  rw [List.getD_eq_getElem?_getD]
  cases hq : l[i]? with
  | none => exact ⟨by simp, by simp⟩
  | some v => exact h v (List.mem_of_getElem? hq)
theorem B8.append {a b : List Int} (ha : B8 a) (hb : B8 b) : B8 (a ++ b) := fun x hx => (List.mem_append.1 hx).elim (ha x) (hb x)
theorem B8.take {l : List Int} (h : B8 l) (n : Nat) : B8 (l.take n) := fun x hx => h x (List.mem_of_mem_take hx)
theorem B8.drop {l : List Int} (h : B8 l) (n : Nat) : B8 (l.drop n) := fun x hx => h x (List.mem_of_mem_drop hx)
theorem B8.rep (n : Nat) : B8 (List.replicate n 0) := fun x hx => by rw [List.mem_replicate] at hx; omega
theorem B8.nil : B8 [] := fun x hx => by simp at hx
theorem B8.flatten {rs : List (List Int)} (h : ∀ r ∈ rs, B8 r) : B8 rs.flatten := fun x hx => by
  obtain ⟨r, hr, hx⟩ := List.mem_flatten.1 hx
  exact h r hr x hx
theorem le_bound : ∀ {l : List Int}, B8 l → 0 ≤ le l ∧ le l < 256 ^ l.length
  | [], _ => ⟨Int.le_refl _, by simp [le]⟩
  | c :: r, h => by
    have h1 := le_bound (l := r) fun x hx => h x (List.mem_cons_of_mem _ hx)
    have h2 := h c List.mem_cons_self
    rw [List.length_cons, Int.pow_succ, le]
    generalize (256 : Int) ^ r.length = p at *
    omega
theorem le_append : ∀ (l : List Int) (c : Int), le (l ++ [c]) = le l + c * 256 ^ l.length
  | [], c => by simp [le]
  | b :: l, c => by
    rw [List.cons_append, le, le_append l c, le, List.length_cons, Int.pow_succ]
    generalize (256 : Int) ^ l.length = p at *
    rw [Int.mul_add, Int.add_assoc, ← Int.mul_assoc, Int.mul_comm p 256, Int.mul_left_comm c 256 p, Int.mul_assoc]
theorem pow256 {a b : Nat} (h : a ≤ b) : (256 : Int) ^ a ≤ 256 ^ b := by
  have := Nat.pow_le_pow_right (n := 256) (by decide) h
  exact_mod_cast this
theorem le_u64 {l : List Int} (h : B8 l) (hl : l.length ≤ 8) : U64 (le l) := by
  obtain ⟨h0, h1⟩ := le_bound h
  refine ⟨h0, Int.lt_of_lt_of_le h1 ?_⟩
  have : (256 : Int) ^ l.length ≤ 256 ^ 8 := pow256 hl
  simpa using this
/-- Word j of bytes. -/
def wd (b : List Int) (j : Nat) : Int := le ((b.drop (8 * j)).take 8)
def wds (b : List Int) : List Int := (List.range 16).map (wd b)
theorem wds_length (b : List Int) : (wds b).length = 16 := by simp [wds]
theorem wds_get (b : List Int) (j : Nat) (hj : j < 16) : (wds b).getD j 0 = wd b j := by simp [wds, List.getD_eq_getElem?_getD, hj]
theorem wd_u64 {b : List Int} (h : B8 b) (j : Nat) : U64 (wd b j) := le_u64 ((h.drop _).take _) (by rw [List.length_take]; omega)
theorem W64.wds {b : List Int} (h : B8 b) : W64 (wds b) := fun x hx => by
  simp only [B.wds, List.mem_map] at hx
  obtain ⟨j, _, rfl⟩ := hx
  exact wd_u64 h j
/-- One more byte. -/
theorem wd_now (b : List Int) (q r : Nat) (hr : r < 8) (h : 8 * q + r < b.length) : wd (b.take (8 * q + r + 1)) q = wd (b.take (8 * q + r)) q + b.getD (8 * q + r) 0 * 256 ^ r := by
  unfold wd
  have e1 : ((b.take (8 * q + r + 1)).drop (8 * q)).take 8 = ((b.drop (8 * q)).take r) ++ [b.getD (8 * q + r) 0] := by
    rw [List.drop_take, List.take_take, show min 8 (8 * q + r + 1 - 8 * q) = r + 1 from by omega, List.take_succ_eq_append_getElem (by rw [List.length_drop]; omega)]
    simp [List.getD_eq_getElem?_getD, h]
  have e2 : ((b.take (8 * q + r)).drop (8 * q)).take 8 = (b.drop (8 * q)).take r := by
    rw [List.drop_take, List.take_take, show min 8 (8 * q + r - 8 * q) = r from by omega]
  have e3 : ((b.drop (8 * q)).take r).length = r := by rw [List.length_take, List.length_drop]; omega
  rw [e1, e2, le_append, e3]
theorem wd_other (b : List Int) (n j : Nat) (h : j ≠ n / 8) : wd (b.take (n + 1)) j = wd (b.take n) j := by
  unfold wd
  rw [List.drop_take, List.drop_take, List.take_take, List.take_take]
  rcases Nat.lt_or_ge (8 * j) n with h1 | h1
  · rw [show min 8 (n + 1 - 8 * j) = min 8 (n - 8 * j) from by omega]
  · rw [show n + 1 - 8 * j = 0 from by omega, show n - 8 * j = 0 from by omega]
theorem wds_step (b : List Int) (q r : Nat) (hr : r < 8) (hq : q < 16) (h : 8 * q + r < b.length) : (wds (b.take (8 * q + r))).set q (wd (b.take (8 * q + r)) q + b.getD (8 * q + r) 0 * 256 ^ r) = wds (b.take (8 * q + r + 1)) := by
  apply List.ext_getElem
  · simp [wds]
  · intro j h1 h2
    rw [List.getElem_set]
    simp only [wds, List.getElem_map, List.getElem_range]
    split
    · rename_i e
      subst e
      exact (wd_now b q r hr h).symm
    · exact (wd_other b _ j (by omega)).symm
theorem wds_nil : wds [] = List.replicate 16 0 := by decide
theorem wd_before (b : List Int) (q r : Nat) (hr : r < 8) (hb : B8 b) : 0 ≤ wd (b.take (8 * q + r)) q ∧ wd (b.take (8 * q + r)) q < 256 ^ r := by
  unfold wd
  have e2 : ((b.take (8 * q + r)).drop (8 * q)).take 8 = (b.drop (8 * q)).take r := by
    rw [List.drop_take, List.take_take, show min 8 (8 * q + r - 8 * q) = r from by omega]
  rw [e2]
  obtain ⟨h0, h1⟩ := le_bound ((hb.drop (8 * q)).take r)
  refine ⟨h0, Int.lt_of_lt_of_le h1 (pow256 (by rw [List.length_take]; omega))⟩
def start512 : List Int := [7640891576956012808, 13503953896175478587, 4354685564936845355, 11912009170470909681, 5840696475078001361, 11170449401992604703, 2270897969802886507, 6620516959819538809]
def placesL : List Int := [0, 4, 8, 12, 1, 5, 9, 13, 2, 6, 10, 14, 3, 7, 11, 15, 0, 5, 10, 15, 1, 6, 11, 12, 2, 7, 8, 13, 3, 4, 9, 14]
def turnsL : List Int := [0, 1, 2, 3, 4, 5, 6, 7, 8, 9, 10, 11, 12, 13, 14, 15,
  14, 10, 4, 8, 9, 15, 13, 6, 1, 12, 0, 2, 11, 7, 5, 3,
  11, 8, 12, 0, 5, 2, 15, 13, 10, 14, 3, 6, 7, 1, 9, 4,
  7, 9, 3, 1, 13, 12, 11, 14, 2, 6, 5, 10, 4, 0, 15, 8,
  9, 0, 5, 7, 2, 4, 10, 15, 14, 1, 11, 12, 6, 8, 3, 13,
  2, 12, 6, 10, 0, 11, 8, 3, 4, 13, 7, 5, 15, 14, 1, 9,
  12, 5, 1, 15, 14, 13, 4, 10, 0, 7, 6, 3, 9, 2, 8, 11,
  13, 11, 7, 14, 12, 1, 3, 9, 5, 0, 15, 4, 8, 6, 2, 10,
  6, 15, 14, 9, 11, 3, 0, 8, 12, 2, 13, 7, 1, 4, 10, 5,
  10, 2, 8, 4, 7, 6, 1, 5, 15, 11, 9, 14, 3, 12, 13, 0]
/-- Place k of round i. -/
def trn (i k : Nat) : Nat := (turnsL.getD (16 * i + k) 0).toNat
theorem trn_lt : ∀ i, i < 10 → ∀ k, k < 16 → trn i k < 16 := by decide
theorem trn_int : ∀ i, i < 10 → ∀ k, k < 16 → turnsL.getD (16 * i + k) 0 = (trn i k : Int) := by decide
def pl (k j : Nat) : Nat := (placesL.getD (4 * k + j) 0).toNat
theorem pl_lt : ∀ k, k < 8 → ∀ j, j < 4 → pl k j < 16 := by decide
theorem pl_int : ∀ k, k < 8 → ∀ j, j < 4 → placesL.getD (4 * k + j) 0 = (pl k j : Int) := by decide
theorem pl_col : ∀ k, k < 4 → pl k 0 = k ∧ pl k 1 = 4 + k ∧ pl k 2 = 8 + k ∧ pl k 3 = 12 + k := by decide
theorem pl_dia : ∀ k, k < 4 → pl (4 + k) 0 = k ∧ pl (4 + k) 1 = 4 + (k + 1) % 4 ∧ pl (4 + k) 2 = 8 + (k + 2) % 4 ∧ pl (4 + k) 3 = 12 + (k + 3) % 4 := by decide
/-- The first k mixings of round i. -/
def half (b v : List Int) (i : Nat) : Nat → List Int
  | 0 => v
  | k + 1 => gmix (half b v i k) (pl k 0) (pl k 1) (pl k 2) (pl k 3) (wd b (trn i (2 * k))) (wd b (trn i (2 * k + 1)))
theorem half_length (b v : List Int) (i : Nat) : ∀ k, (half b v i k).length = v.length
  | 0 => rfl
  | k + 1 => by rw [half, gmix_length, half_length b v i k]
theorem W64.half {b v : List Int} (hv : W64 v) (i : Nat) : ∀ k, W64 (half b v i k)
  | 0 => hv
  | k + 1 => (W64.half hv i k).gmix _ _ _ _ _ _
/-- The first n rounds. -/
def rnds (b v : List Int) : Nat → List Int
  | 0 => v
  | i + 1 => half b (rnds b v i) (i % 10) 8
theorem rnds_length (b v : List Int) : ∀ k, (rnds b v k).length = v.length
  | 0 => rfl
  | k + 1 => by rw [rnds, half_length, rnds_length b v k]
theorem W64.rnds {b v : List Int} (hv : W64 v) : ∀ k, W64 (rnds b v k)
  | 0 => hv
  | k + 1 => (W64.rnds hv k).half _ _
/-- A block's grid at its begin. -/
def grid0 (s : List Int) (n : Nat) (last : Bool) : List Int :=
  let v := (s ++ start512).set 12 (xor64 ((s ++ start512).getD 12 0) n)
  if last then v.set 14 (18446744073709551615 - v.getD 14 0) else v
theorem W64.start : W64 start512 := by intro x hx; simp only [start512, List.mem_cons, List.not_mem_nil, or_false] at hx; unfold U64; omega
theorem grid0_length (s : List Int) (hs : s.length = 8) (n : Nat) (last : Bool) : (grid0 s n last).length = 16 := by
  unfold grid0
  cases last <;> simp [start512, hs]
theorem W64.grid0 {s : List Int} (hs : W64 s) (n : Nat) (hn : n < 18446744073709551616) (last : Bool) : W64 (grid0 s n last) := by
  have h1 : W64 (s ++ start512) := hs.append W64.start
  have h2 : W64 ((s ++ start512).set 12 (xor64 ((s ++ start512).getD 12 0) n)) := h1.set 12 ((h1.get 12).xor ⟨by omega, by omega⟩)
  unfold B.grid0
  cases last
  · exact h2
  · refine h2.set 14 ?_
    have := h2.get 14
    unfold U64 at *
    omega
/-- The first k words of a sum, behind a block. -/
def outN (s v : List Int) (k : Nat) : List Int := (List.range s.length).map fun i => if i < k then xor64 (xor64 (s.getD i 0) (v.getD i 0)) (v.getD (i + 8) 0) else s.getD i 0
theorem outN_length (s v : List Int) (k : Nat) : (outN s v k).length = s.length := by simp [outN]
theorem outN_zero (s v : List Int) : outN s v 0 = s := by
  apply List.ext_getElem
  · simp [outN]
  · intro j h1 h2
    simp [outN, List.getD_eq_getElem?_getD, h2]
theorem outN_get (s v : List Int) (k : Nat) : (outN s v k).getD k 0 = s.getD k 0 := by
  rw [List.getD_eq_getElem?_getD, outN, List.getElem?_map]
  by_cases h : k < s.length
  · simp [h]
  · simp [List.getElem?_eq_none (show s.length ≤ k by omega), h]
theorem outN_step (s v : List Int) (k : Nat) : (outN s v k).set k (xor64 (xor64 (s.getD k 0) (v.getD k 0)) (v.getD (k + 8) 0)) = outN s v (k + 1) := by
  apply List.ext_getElem
  · simp [outN]
  · intro j h1 h2
    rw [List.getElem_set]
    simp only [outN, List.getElem_map, List.getElem_range]
    split
    · rename_i e
      subst e
      rw [if_pos (by omega)]
    · by_cases h3 : j < k
      · rw [if_pos h3, if_pos (by omega)]
      · rw [if_neg h3, if_neg (by omega)]
theorem W64.outN {s v : List Int} (hs : W64 s) (hv : W64 v) (k : Nat) : W64 (outN s v k) := fun x hx => by
  simp only [B.outN, List.mem_map] at hx
  obtain ⟨j, _, rfl⟩ := hx
  split
  · exact ((hs.get j).xor (hv.get j)).xor (hv.get _)
  · exact hs.get j
/-- A sum's words, behind a block. -/
def blkP (s b : List Int) (n : Nat) (last : Bool) : List Int := outN s (rnds b (grid0 s n last) 12) 8
theorem blkP_length (s b : List Int) (n : Nat) (last : Bool) : (blkP s b n last).length = s.length := outN_length _ _ _
theorem W64.blkP {s b : List Int} (hs : W64 s) (n : Nat) (hn : n < 18446744073709551616) (last : Bool) : W64 (blkP s b n last) := hs.outN ((hs.grid0 n hn last).rnds 12) 8
/-- Behind the first k blocks. -/
def blks (s T : List Int) : Nat → List Int
  | 0 => s
  | k + 1 => blkP (blks s T k) ((T.drop (128 * k)).take 128) (128 * k + 128) false
theorem blks_length (s T : List Int) : ∀ k, (blks s T k).length = s.length
  | 0 => rfl
  | k + 1 => by rw [blks, blkP_length, blks_length s T k]
theorem W64.blks {s T : List Int} (hs : W64 s) : ∀ k, 128 * k < 18446744073709551616 → W64 (blks s T k)
  | 0, _ => hs
  | k + 1, h => (W64.blks hs k (by omega)).blkP _ (by omega) _
def begin0 (size klen : Nat) : List Int := start512.set 0 (xor64 7640891576956012808 ((size + 256 * klen + 65536 + 16777216 : Nat) : Int))
theorem W64.begin0 (size klen : Nat) (h1 : size ≤ 64) (h2 : klen ≤ 64) : W64 (begin0 size klen) :=
  W64.start.set 0 (U64.xor ⟨by decide, by decide⟩ ⟨by omega, by omega⟩)
def allP (key T : List Int) : List Int := (if key.length = 0 then [] else key ++ List.replicate (128 - key.length) 0) ++ T
theorem allP_len (key T : List Int) (hk : key.length ≤ 64) : (allP key T).length = (if key.length = 0 then 0 else 128) + T.length := by
  unfold allP
  split <;> simp <;> omega
theorem B8.all {key T : List Int} (hk : B8 key) (hT : B8 T) : B8 (allP key T) := by
  unfold allP
  split
  · exact B8.nil.append hT
  · exact (hk.append (B8.rep _)).append hT
/-- How many blocks there are ahead of the last one. -/
def nblk (n : Nat) : Nat := (n - 1) / 128
def sumW (size : Nat) (key T : List Int) : List Int :=
  let A := allP key T
  blkP (blks (begin0 size key.length) A (nblk A.length)) (A.drop (128 * nblk A.length)) A.length true
theorem sumW_length (size : Nat) (key T : List Int) : (sumW size key T).length = 8 := by simp only [sumW, blkP_length, blks_length, begin0, List.length_set]; rfl
def byteAt (s : List Int) (i : Nat) : Int := s.getD (i / 8) 0 / 256 ^ (i % 8) % 256
def bytesP (s : List Int) (n : Nat) : List Int := (List.range n).map (byteAt s)
theorem bytesP_length (s : List Int) (n : Nat) : (bytesP s n).length = n := by simp [bytesP]
theorem bytesP_step (s : List Int) (n : Nat) : bytesP s (n + 1) = bytesP s n ++ [byteAt s n] := by simp [bytesP, List.range_succ]
theorem B8.bytesP (s : List Int) (n : Nat) : B8 (bytesP s n) := fun x hx => by
  simp only [B.bytesP, List.mem_map] at hx
  obtain ⟨j, _, rfl⟩ := hx
  unfold byteAt
  omega
/-- The sum. -/
def sumP (size : Nat) (key T : List Int) : List Int := bytesP (sumW size key T) size
theorem sumP_length (size : Nat) (key T : List Int) : (sumP size key T).length = size := bytesP_length _ _
end Go.Abs.B
