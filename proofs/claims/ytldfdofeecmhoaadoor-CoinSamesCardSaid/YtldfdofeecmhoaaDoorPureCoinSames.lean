/- CoinSames over lists: two rows of bytes are the same just where coin.Same tells it; a row is the same as itself and unlike one with a byte turned or cut off. Condition: elements are bytes. -/
import Derived.Test.YtldfdofeecmhoaaDoorPCoinSamesx1
import Derived.Test.YtldfdofeecmhoaaDoorPureLib
namespace Go.Proofs.YtldfdofeecmhoaaDoor.Pure
open Go.RowKit Go.Proofs.YtldfdofeecmhoaaDoorW.PrintWords PL
namespace CoinSamesP
open PCoinSames
theorem awake_true : escutcheonlaw01_awake.f = some true := by decide +kernel
theorem same_l (a b : List Int) (n : Nat) (ha : a.length = n) (hb : b.length = n) (hn : n ≤ maxLen) (wa : ∀ y ∈ a, 0 ≤ y ∧ y ≤ 255) (wb : ∀ y ∈ b, 0 ≤ y ∧ y ≤ 255) :
    ∀ (d k i : Nat) (x : Int), i + d = n → d < k → 0 ≤ x ∧ x ≤ 255 → coin_Same.l0 k a b x (n : Int) (i : Int) = some (decide (x = 0 ∧ a.drop i = b.drop i)) := by
  intro d
  induction d with
  | zero =>
    intro k i x hi hk hx
    obtain ⟨k, rfl⟩ : ∃ m, k = m + 1 := ⟨k - 1, by omega⟩
    simp only [coin_Same.l0]
    rw [if_neg (by omega)]
    have : a.drop i = b.drop i := by rw [List.drop_of_length_le (by omega), List.drop_of_length_le (by omega)]
    simp only [this, and_true, Option.some.injEq]
    rw [Bool.eq_iff_iff]
    simp
  | succ d ih =>
    intro k i x hi hk hx
    obtain ⟨k, rfl⟩ : ∃ m, k = m + 1 := ⟨k - 1, by omega⟩
    have hia : i < a.length := by omega
    have hib : i < b.length := by omega
    simp only [coin_Same.l0]
    rw [if_pos (by omega), if_pos (by omega), if_pos (by omega), if_pos (by omega), w64 (by omega) (by unfold maxLen at hn; omega), rd_nat a i hia, rd_nat b i hib]
    have h1 := wa a[i] (List.getElem_mem hia)
    have h2 := wb b[i] (List.getElem_mem hib)
    have hz := u8xor_lt a[i] b[i] h1 h2
    have := ih k (i + 1) (Go.bits .or .u8 x (Go.bits .xor .u8 a[i] b[i])) (by omega) (by omega) (u8or_lt x _ hx hz)
    rw [show ((i : Int) + 1) = ((i + 1 : Nat) : Int) from by omega, this]
    congr 1
    rw [decide_eq_decide, u8or0 x _ hx hz, u8xor0 _ _ h1 h2, List.drop_eq_getElem_cons hia, List.drop_eq_getElem_cons hib]
    constructor
    · rintro ⟨⟨h3, h4⟩, h5⟩
      exact ⟨h3, by rw [h4, h5]⟩
    · rintro ⟨h3, h4⟩
      simp only [List.cons.injEq] at h4
      exact ⟨⟨h3, h4.1⟩, h4.2⟩
theorem same_f (a b : List Int) (hn : a.length ≤ maxLen) (wa : ∀ y ∈ a, 0 ≤ y ∧ y ≤ 255) (wb : ∀ y ∈ b, 0 ≤ y ∧ y ≤ 255) (k : Nat) (hk : a.length < k) : coin_Same.f k a b = some (decide (a = b)) := by
  unfold coin_Same.f
  by_cases h : a.length = b.length
  · rw [if_pos (by omega)]
    have := same_l a b a.length rfl h.symm hn wa wb a.length k 0 0 (by omega) hk (by omega)
    simpa using this
  · rw [if_neg (by omega)]
    have : a ≠ b := fun e => h (by rw [e])
    simp [this]
end CoinSamesP
open PCoinSames CoinSamesP in
theorem CoinSames : PCoinSames.escutcheonlaw01_CoinSames.Pure := by
  intro a b at_ hma hwa hmb hwb hat
  have wa := bytes_of_wf hwa
  have wb := bytes_of_wf hwb
  have hx := u8b hat
  refine ⟨a.length + 3, ?_⟩
  unfold escutcheonlaw01_CoinSames.f
  rw [awake_true]
  simp only [Option.bind_some, if_true]
  by_cases hA : (a.length : Int) > 200
  · rw [if_pos hA]
    simp only [escutcheonlaw01_CoinSames.j0, if_true]
    rw [awake_true]
    rfl
  · rw [if_neg hA]
    by_cases hB : (b.length : Int) > 200
    · rw [decide_eq_true hB]
      simp only [escutcheonlaw01_CoinSames.j0, if_true]
      rw [awake_true]
      rfl
    · rw [decide_eq_false hB]
      simp only [escutcheonlaw01_CoinSames.j0]
      rw [if_neg (by decide), same_f a b hma wa wb _ (by omega)]
      simp only [Option.bind_some]
      have hd : (decide (a = b) != ((strOfNums a).toList == (strOfNums b).toList)) = false := by
        by_cases h : a = b
        · subst h; simp
        · have : ¬ ((strOfNums a).toList = (strOfNums b).toList) := fun e => h (strOfNums_inj wa wb (toList_inj.1 e))
          simp [h, this]
      rw [hd, if_neg (by decide), same_f a a hma wa wa _ (by omega)]
      simp only [Option.bind_some, decide_true, Bool.not_true]
      simp only [escutcheonlaw01_CoinSames.j1]
      rw [if_neg (by decide)]
      by_cases h0 : (a.length : Int) = 0
      · rw [if_pos h0]
      · rw [if_neg h0]
        simp only [Option.bind_some, List.nil_append]
        have hw : wrap64 at_ = at_ := w64 (by omega) (by omega)
        have hmod : Int.tmod at_ (a.length : Int) = ((at_.toNat % a.length : Nat) : Int) := by
          obtain ⟨m, rfl⟩ := Int.eq_ofNat_of_zero_le hx.1
          rw [Int.tmod_eq_emod_of_nonneg (by omega)]
          simp
        have hlt : at_.toNat % a.length < a.length := Nat.mod_lt _ (by omega)
        generalize at_.toNat % a.length = j at hmod hlt
        rw [if_pos (by simp; omega), if_neg h0, hw, hmod, if_pos (by omega), if_pos (by omega)]
        rw [rd_nat a j hlt, Int.toNat_natCast]
        have haj := wa a[j] (List.getElem_mem hlt)
        have hne : a ≠ a.set j (Go.bits .xor .u8 a[j] 1) := by
          intro e
          have h1 : a[j] = Go.bits .xor .u8 a[j] 1 := by
            have := congrArg (fun l : List Int => l[j]?) e
            simpa [hlt] using this
          have h2 : Go.bits .xor .u8 a[j] 1 = ((a[j].toNat ^^^ 1 : Nat) : Int) := u8_xor a[j] 1 haj.1 (by omega) (by decide) (by decide)
          rw [h2] at h1
          have h3 : a[j].toNat = a[j].toNat ^^^ 1 := by omega
          have h4 : a[j].toNat ^^^ a[j].toNat = a[j].toNat ^^^ (a[j].toNat ^^^ 1) := congrArg (a[j].toNat ^^^ ·) h3
          rw [← Nat.xor_assoc, Nat.xor_self, Nat.zero_xor] at h4
          exact absurd h4 (by decide)
        rw [same_f a _ hma wa (by
          intro y hy
          rcases List.mem_or_eq_of_mem_set hy with h | rfl
          · exact wa y h
          · exact u8xor_lt _ _ haj (by decide)) _ (by omega)]
        simp only [Option.bind_some, decide_eq_false hne]
        rw [if_neg (by decide), w64 (by omega) (by omega), if_pos (by omega), if_pos (by omega)]
        have hne2 : a ≠ a.take ((a.length : Int) - 1).toNat := by
          intro e
          have := congrArg List.length e
          rw [List.length_take] at this
          omega
        rw [same_f a _ hma wa (fun y hy => wa y (List.mem_of_mem_take hy)) _ (by omega)]
        rw [decide_eq_false hne2]
        rfl
end Go.Proofs.YtldfdofeecmhoaaDoor.Pure
