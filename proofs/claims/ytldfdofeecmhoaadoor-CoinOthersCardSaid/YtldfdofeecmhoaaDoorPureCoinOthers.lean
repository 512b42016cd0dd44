/- CoinOthers over lists: two lists of rows are the same as one just if they are the same. Condition: elements are bytes. -/
import Derived.Test.YtldfdofeecmhoaaDoorPCoinOthersx1
import Derived.Test.YtldfdofeecmhoaaDoorPureCoin
namespace Go.Proofs.YtldfdofeecmhoaaDoor.Pure
open Go.RowKit Go.Proofs.YtldfdofeecmhoaaDoorW.PrintWords PL Ext
namespace CoinOthersP
open PCoinOthers
theorem awake_true : escutcheonlaw01_awake.f = some true := by decide +kernel
theorem same_l (a b : List Int) (n : Nat) (ha : a.length = n) (hb : b.length = n) (hn : n ≤ maxLen) (wa : ∀ y ∈ a, 0 ≤ y ∧ y ≤ 255) (wb : ∀ y ∈ b, 0 ≤ y ∧ y ≤ 255) :
    ∀ (d k i : Nat) (x : Int), i + d = n → d < k → 0 ≤ x ∧ x ≤ 255 → coin_Same.l0 k a b x (n : Int) (i : Int) = some (decide (x = 0 ∧ a.drop i = b.drop i)) := by
  intro d
  induction d with
  | zero =>
    intro k i x hi hk hx
    obtain ⟨k, rfl⟩ : ∃ m, k = m + 1 := ⟨k - 1, by omega⟩
    simp only [coin_Same.l0]
    rw [if_neg (by omega)]
    have : a.drop i = b.drop i := by rw [List.drop_of_length_le (by omega), List.drop_of_length_le (by omega)]
    simp only [this, and_true, Option.some.injEq]
    rw [Bool.eq_iff_iff]
    simp
  | succ d ih =>
    intro k i x hi hk hx
    obtain ⟨k, rfl⟩ : ∃ m, k = m + 1 := ⟨k - 1, by omega⟩
    have hia : i < a.length := by omega
    have hib : i < b.length := by omega
    simp only [coin_Same.l0]
    rw [if_pos (by omega), if_pos (by omega), if_pos (by omega), if_pos (by omega), w64 (by omega) (by unfold maxLen at hn; omega), rd_nat a i hia, rd_nat b i hib]
    have h1 := wa a[i] (List.getElem_mem hia)
    have h2 := wb b[i] (List.getElem_mem hib)
    have hz := u8xor_lt a[i] b[i] h1 h2
    have := ih k (i + 1) (Go.bits .or .u8 x (Go.bits .xor .u8 a[i] b[i])) (by omega) (by omega) (u8or_lt x _ hx hz)
    rw [show ((i : Int) + 1) = ((i + 1 : Nat) : Int) from by omega, this]
    congr 1
    rw [decide_eq_decide, u8or0 x _ hx hz, u8xor0 _ _ h1 h2, List.drop_eq_getElem_cons hia, List.drop_eq_getElem_cons hib]
    constructor
    · rintro ⟨⟨h3, h4⟩, h5⟩
      exact ⟨h3, by rw [h4, h5]⟩
    · rintro ⟨h3, h4⟩
      simp only [List.cons.injEq] at h4
      exact ⟨⟨h3, h4.1⟩, h4.2⟩
theorem same_f (a b : List Int) (hn : a.length ≤ maxLen) (wa : ∀ y ∈ a, 0 ≤ y ∧ y ≤ 255) (wb : ∀ y ∈ b, 0 ≤ y ∧ y ≤ 255) (k : Nat) (hk : a.length < k) : coin_Same.f k a b = some (decide (a = b)) := by
  unfold coin_Same.f
  by_cases h : a.length = b.length
  · rw [if_pos (by omega)]
    have := same_l a b a.length rfl h.symm hn wa wb a.length k 0 0 (by omega) hk (by omega)
    simpa using this
  · rw [if_neg (by omega)]
    have : a ≠ b := fun e => h (by rw [e])
    simp [this]
theorem eight_l : ∀ (d k : Nat) (i : Int) (x : Int) (acc : List Int), i + d = 8 → d < k → 0 ≤ i → acc.length + d ≤ 1000 → coin_Eight.l0 k x acc i = some (acc ++ leN d x) := by
  intro d
  induction d with
  | zero =>
    intro k i x acc hi hk h0 ha
    obtain ⟨k, rfl⟩ : ∃ m, k = m + 1 := ⟨k - 1, by omega⟩
    simp only [coin_Eight.l0]
    rw [if_neg (by omega)]
    simp [leN]
  | succ d ih =>
    intro k i x acc hi hk h0 ha
    obtain ⟨k, rfl⟩ : ∃ m, k = m + 1 := ⟨k - 1, by omega⟩
    simp only [coin_Eight.l0]
    rw [if_pos (by omega), if_pos (by omega), w64 (by omega) (by omega)]
    rw [ih k (i + 1) (x / 256) _ (by omega) (by omega) (by omega) (by simp; omega)]
    simp [leN]
theorem eight_f (x : Int) (k : Nat) (hk : 8 < k) : coin_Eight.f k x = some (leN 8 x) := by
  unfold coin_Eight.f
  rw [eight_l 8 k 0 x [] (by omega) hk (by omega) (by simp)]
  rfl
theorem rd_L1_nat (l : List (List Int)) (i : Nat) (h : i < l.length) : rd_L1 l (i : Int) = l[i] := by
  simp [rd_L1, List.getD_eq_getElem?_getD, List.getElem?_eq_getElem h]
theorem pack_l (l : List (List Int)) (hn : l.length ≤ 1000) (hp : ∀ p ∈ l, p.length ≤ 1000) :
    ∀ (d k i : Nat), i + d = l.length → d + 9 < k → coin_Pack.l0 k (leN 8 (l.length : Int) ++ body (l.take i)) l (l.length : Int) (i : Int) = some (pack l) := by
  intro d
  induction d with
  | zero =>
    intro k i hi hk
    obtain ⟨k, rfl⟩ : ∃ m, k = m + 1 := ⟨k - 1, by omega⟩
    simp only [coin_Pack.l0]
    rw [if_neg (by omega), List.take_of_length_le (by omega)]
    rfl
  | succ d ih =>
    intro k i hi hk
    obtain ⟨k, rfl⟩ : ∃ m, k = m + 1 := ⟨k - 1, by omega⟩
    have hil : i < l.length := by omega
    simp only [coin_Pack.l0]
    have h1 := hp l[i] (List.getElem_mem hil)
    have h2 := body_length (l.take i) 1000 (fun p h => hp p (List.mem_of_mem_take h))
    have h3 : (l.take i).length = i := by rw [List.length_take]; omega
    rw [h3] at h2
    have h4 : i * (8 + 1000) ≤ 1000 * (8 + 1000) := Nat.mul_le_mul_right _ (by omega)
    rw [if_pos (by omega), if_pos (by omega), if_pos (by omega), rd_L1_nat l i hil, eight_f _ k (by omega)]
    simp only [Option.bind_some]
    have hc : slices_Concat.f [leN 8 (l.length : Int) ++ body (l.take i), leN 8 (l[i].length : Int), l[i]] = some (leN 8 (l.length : Int) ++ body (l.take (i + 1))) := by
      unfold slices_Concat.f
      rw [if_pos (by simp [leN_length]; omega), List.take_succ_eq_append_getElem hil, body_snoc]
      simp
    rw [hc]
    simp only [Option.bind_some]
    rw [w64 (by omega) (by omega)]
    exact ih k (i + 1) (by omega) (by omega)
theorem pack_f (l : List (List Int)) (hn : l.length ≤ 1000) (hp : ∀ p ∈ l, p.length ≤ 1000) (k : Nat) (hk : l.length + 9 < k) : coin_Pack.f k l = some (pack l) := by
  unfold coin_Pack.f
  rw [eight_f _ k (by omega)]
  simp only [Option.bind_some]
  have := pack_l l hn hp l.length k 0 (by omega) hk
  simpa [body] using this
theorem rows_l (a b : List (List Int)) (n : Nat) (ha : a.length = n) (hb : b.length = n) (hn : n ≤ maxLen) (wa : ∀ p ∈ a, ∀ y ∈ p, 0 ≤ y ∧ y ≤ 255) (wb : ∀ p ∈ b, ∀ y ∈ p, 0 ≤ y ∧ y ≤ 255) :
    ∀ (d k i : Nat), i + d = n → d < k → escutcheonlaw01_same.l0 k a b (n : Int) (i : Int) = some (decide (a.drop i = b.drop i)) := by
  intro d
  induction d with
  | zero =>
    intro k i hi hk
    obtain ⟨k, rfl⟩ : ∃ m, k = m + 1 := ⟨k - 1, by omega⟩
    simp only [escutcheonlaw01_same.l0]
    rw [if_neg (by omega)]
    have : a.drop i = b.drop i := by rw [List.drop_of_length_le (by omega), List.drop_of_length_le (by omega)]
    rw [decide_eq_true this]
  | succ d ih =>
    intro k i hi hk
    obtain ⟨k, rfl⟩ : ∃ m, k = m + 1 := ⟨k - 1, by omega⟩
    have hia : i < a.length := by omega
    have hib : i < b.length := by omega
    simp only [escutcheonlaw01_same.l0]
    rw [if_pos (by omega), if_pos (by omega), if_pos (by omega), if_pos (by omega), rd_L1_nat a i hia, rd_L1_nat b i hib]
    by_cases he : a[i] = b[i]
    · rw [if_pos (by rw [he]), w64 (by omega) (by unfold maxLen at hn; omega)]
      have := ih k (i + 1) (by omega) (by omega)
      rw [show ((i : Int) + 1) = ((i + 1 : Nat) : Int) from by omega, this]
      congr 1
      rw [decide_eq_decide, List.drop_eq_getElem_cons hia, List.drop_eq_getElem_cons hib, he]
      exact ⟨fun h => by rw [h], fun h => (List.cons.inj h).2⟩
    · rw [if_neg (fun h => he (strOfNums_inj (wa _ (List.getElem_mem hia)) (wb _ (List.getElem_mem hib)) (toList_inj.1 h)))]
      have : ¬ (a.drop i = b.drop i) := fun h => by
        rw [List.drop_eq_getElem_cons hia, List.drop_eq_getElem_cons hib] at h
        exact he (List.cons.inj h).1
      rw [decide_eq_false this]
theorem rows_f (a b : List (List Int)) (hn : a.length ≤ maxLen) (wa : ∀ p ∈ a, ∀ y ∈ p, 0 ≤ y ∧ y ≤ 255) (wb : ∀ p ∈ b, ∀ y ∈ p, 0 ≤ y ∧ y ≤ 255) (k : Nat) (hk : a.length < k) : escutcheonlaw01_same.f k a b = some (decide (a = b)) := by
  unfold escutcheonlaw01_same.f
  by_cases h : a.length = b.length
  · rw [if_pos (by omega)]
    have := rows_l a b a.length rfl h.symm hn wa wb a.length k 0 (by omega) hk
    simpa using this
  · rw [if_neg (by omega)]
    have : a ≠ b := fun e => h (by rw [e])
    simp [this]
theorem loop (a b c : List (List Int)) (k0 : Nat) (hc : c.length ≤ 1000)
    (hfin : (∀ p ∈ c, p.length ≤ 100) → ∀ k, k0 ≤ k → ((coin_Pack.f k a).bind fun t137 => ((coin_Pack.f k b).bind fun t140 => ((coin_Same.f k t137 t140).bind fun t143 => ((escutcheonlaw01_same.f k a b).bind fun t144 => (some (t143 == t144)))))) = some true) :
    ∀ (d k i : Nat), i + d = c.length → d + k0 < k → (∀ j (h : j < c.length), j < i → c[j].length ≤ 100) → escutcheonlaw01_CoinOthers.l0 k a b c (c.length : Int) (i : Int) = some true := by
  intro d
  induction d with
  | zero =>
    intro k i hi hk hj
    obtain ⟨k, rfl⟩ : ∃ m, k = m + 1 := ⟨k - 1, by omega⟩
    simp only [escutcheonlaw01_CoinOthers.l0]
    rw [if_neg (by omega)]
    refine hfin (fun p hp => ?_) k (by omega)
    obtain ⟨j, h, rfl⟩ := List.getElem_of_mem hp
    exact hj j h (by omega)
  | succ d ih =>
    intro k i hi hk hj
    obtain ⟨k, rfl⟩ : ∃ m, k = m + 1 := ⟨k - 1, by omega⟩
    have hil : i < c.length := by omega
    simp only [escutcheonlaw01_CoinOthers.l0]
    rw [if_pos (by omega), if_pos (by omega), if_pos (by omega), rd_L1_nat c i hil]
    by_cases h : c[i].length ≤ 100
    · rw [if_neg (by omega), w64 (by omega) (by omega)]
      exact ih k (i + 1) (by omega) (by omega) (fun j h1 h2 => by
        rcases Nat.lt_or_ge j i with h3 | h3
        · exact hj j h1 h3
        · obtain rfl : j = i := by omega
          exact h)
    · rw [if_pos (by omega)]
end CoinOthersP
open PCoinOthers CoinOthersP in
theorem CoinOthers : PCoinOthers.escutcheonlaw01_CoinOthers.Pure := by
  intro a b hma hwa hmb hwb
  have wa : ∀ p ∈ a, ∀ y ∈ p, 0 ≤ y ∧ y ≤ 255 := fun p hp => bytes_of_wf (hwa p hp).2
  have wb : ∀ p ∈ b, ∀ y ∈ p, 0 ≤ y ∧ y ≤ 255 := fun p hp => bytes_of_wf (hwb p hp).2
  clear hwa hwb
  by_cases hA : (a.length : Int) > 20
  · refine ⟨1, ?_⟩
    unfold escutcheonlaw01_CoinOthers.f
    rw [awake_true]
    simp only [Option.bind_some, if_true]
    rw [if_pos hA]
    simp only [escutcheonlaw01_CoinOthers.j0, if_true]
    rw [awake_true]
    rfl
  by_cases hB : (b.length : Int) > 20
  · refine ⟨1, ?_⟩
    unfold escutcheonlaw01_CoinOthers.f
    rw [awake_true]
    simp only [Option.bind_some, if_true]
    rw [if_neg hA, decide_eq_true hB]
    simp only [escutcheonlaw01_CoinOthers.j0, if_true]
    rw [awake_true]
    rfl
  refine ⟨20000, ?_⟩
  unfold escutcheonlaw01_CoinOthers.f
  rw [awake_true]
  simp only [Option.bind_some, if_true]
  rw [if_neg hA, decide_eq_false hB]
  simp only [escutcheonlaw01_CoinOthers.j0]
  rw [if_neg (by decide)]
  simp only [Option.bind_some, List.nil_append]
  have hc : (a ++ b).length ≤ 40 := by rw [List.length_append]; omega
  rw [if_pos (by rw [List.length_nil]; omega), if_pos (by omega)]
  refine loop a b (a ++ b) 10000 (by omega) (fun hs k hk => ?_) (a ++ b).length _ 0 (by omega) (by omega) (fun j h1 h2 => by omega)
  have sa : ∀ p ∈ a, p.length ≤ 100 := fun p hp => hs p (List.mem_append_left _ hp)
  have sb : ∀ p ∈ b, p.length ≤ 100 := fun p hp => hs p (List.mem_append_right _ hp)
  have la := body_length a 100 sa
  have h4 : a.length * (8 + 100) ≤ 20 * (8 + 100) := Nat.mul_le_mul_right _ (by omega)
  have lp : (pack a).length ≤ 3000 := by
    unfold pack
    rw [List.length_append, leN_length]
    omega
  rw [pack_f a (by omega) (fun p hp => by have := sa p hp; omega) k (by omega), pack_f b (by omega) (fun p hp => by have := sb p hp; omega) k (by omega)]
  simp only [Option.bind_some]
  rw [same_f (pack a) (pack b) (by unfold maxLen; omega) (pack_bytes a wa) (pack_bytes b wb) k (by omega), rows_f a b hma wa wb k (by omega)]
  simp only [Option.bind_some]
  have : (pack a = pack b) ↔ a = b := ⟨fun h => pack_inj a b (by omega) (by omega) (fun p hp => by have := sa p hp; omega) (fun p hp => by have := sb p hp; omega) h, fun h => by rw [h]⟩
  simp [this]
end Go.Proofs.YtldfdofeecmhoaaDoor.Pure
