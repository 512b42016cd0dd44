/- CoinEnds. -/
import Derived.Test.YtldfdofeecmhoaaDoorCoiM
namespace Go.Abs.S
open Go.Proofs
set_option linter.unusedVariables false
set_option linter.unusedSimpArgs false
set_option maxRecDepth 100000
set_option maxHeartbeats 4000000
theorem val_leN : ∀ (m : Nat) (n : Int), 0 ≤ n → n < 256 ^ m → val (leN m n) = n
  | 0, n, h0, h1 => by simp at h1; simp [leN, val]; omega
  | m + 1, n, h0, h1 => by
    have h2 : (256 : Int) ^ (m + 1) = 256 ^ m * 256 := Int.pow_succ _ _
    have ih := val_leN m (n / 256) (by omega) (by omega)
    simp only [leN, val, ih]
    omega
theorem dec_le (k : Nat) (R : List Int) (hk : k ≤ 2147483647) : dec (leN 8 k ++ R) = some (k, R) := by
  have h1 : (leN 8 k ++ R).take 8 = leN 8 k := by rw [List.take_append_of_le_length (by rw [leN_length]; omega), List.take_of_length_le (by rw [leN_length]; omega)]
  have h2 : (leN 8 k ++ R).drop 8 = R := by
    have := List.drop_left (l₁ := leN 8 k) (l₂ := R)
    rwa [leN_length] at this
  have h3 : val (leN 8 (k : Int)) = k := val_leN 8 k (by omega) (by simp only [Int.reducePow]; omega)
  unfold dec
  rw [h1, h2, h3, if_neg]
  · simp
  · rw [List.length_append, leN_length]
    omega
abbrev flt (rs : List (List Int)) : List Int := rs.flatMap fun r => leN 8 r.length ++ r
theorem flt_cons (r : List Int) (rs : List (List Int)) : flt (r :: rs) = leN 8 r.length ++ (r ++ flt rs) := by simp [flt]
theorem rowsP_flt : ∀ (rs : List (List Int)) (E : List Int), (∀ r ∈ rs, r.length ≤ 2147483647) → rowsP rs.length (flt rs ++ E) = some (rs, E)
  | [], E, h => rfl
  | r :: rs, E, h => by
    have ih := rowsP_flt rs E (fun q hq => h q (List.mem_cons_of_mem _ hq))
    have e1 : flt (r :: rs) ++ E = leN 8 r.length ++ (r ++ (flt rs ++ E)) := by rw [flt_cons]; simp
    rw [e1]
    have e2 : (r ++ (flt rs ++ E)).drop r.length = flt rs ++ E := List.drop_left
    have e3 : (r ++ (flt rs ++ E)).take r.length = r := List.take_left
    simp only [List.length_cons, rowsP, dec_le _ _ (h r List.mem_cons_self), e2, e3, ih]
    rw [if_neg (by rw [List.length_append]; omega)]
theorem rowsP_cut : ∀ (rs : List (List Int)) (m : Nat), (∀ r ∈ rs, r.length ≤ 2147483647) → m < (flt rs).length → rowsP rs.length ((flt rs).take m) = none
  | [], m, h, hm => by simp [flt] at hm
  | r :: rs, m, h, hm => by
    rw [flt_cons] at hm ⊢
    simp only [List.length_append, leN_length] at hm
    by_cases h8 : m < 8
    · have hd : dec ((leN 8 r.length ++ (r ++ flt rs)).take m) = none := by
        unfold dec
        rw [if_pos (.inl (by rw [List.length_take]; omega))]
      simp only [List.length_cons, rowsP, hd]
    · have e1 : (leN 8 r.length ++ (r ++ flt rs)).take m = leN 8 r.length ++ (r ++ flt rs).take (m - 8) := by
        rw [List.take_append, leN_length, List.take_of_length_le (by rw [leN_length]; omega)]
      rw [e1]
      simp only [List.length_cons, rowsP, dec_le _ _ (h r List.mem_cons_self)]
      by_cases hk : ((r ++ flt rs).take (m - 8)).length < r.length
      · rw [if_pos hk]
      · rw [if_neg hk]
        have e2 : ((r ++ flt rs).take (m - 8)).drop r.length = (flt rs).take (m - 8 - r.length) := by
          rw [List.drop_take, List.drop_left]
        rw [List.length_take, List.length_append] at hk
        have ih := rowsP_cut rs (m - 8 - r.length) (fun q hq => h q (List.mem_cons_of_mem _ hq)) (by omega)
        rw [e2, ih]
theorem packP_eq (rs : List (List Int)) : packP rs = leN 8 rs.length ++ flt rs := rfl
theorem unp_end (rs : List (List Int)) (E : List Int) (h1 : rs.length ≤ 2147483647) (h2 : ∀ r ∈ rs, r.length ≤ 2147483647) : unp (packP rs ++ E) = if E.length > 0 then ([], 2) else (rs, 0) := by
  unfold unp
  rw [packP_eq, List.append_assoc, dec_le _ _ h1]
  simp only [rowsP_flt rs E h2]
theorem unp_cut (rs : List (List Int)) (m : Nat) (h1 : rs.length ≤ 2147483647) (h2 : ∀ r ∈ rs, r.length ≤ 2147483647) (hm : m < (packP rs).length) : unp ((packP rs).take m) = ([], 3) := by
  rw [packP_eq, List.length_append, leN_length] at hm
  unfold unp
  rw [packP_eq]
  by_cases h8 : m < 8
  · have hd : dec ((leN 8 rs.length ++ flt rs).take m) = none := by
      unfold dec
      rw [if_pos (.inl (by rw [List.length_take]; omega))]
    rw [hd]
  · have e1 : (leN 8 rs.length ++ flt rs).take m = leN 8 rs.length ++ (flt rs).take (m - 8) := by
      rw [List.take_append, leN_length, List.take_of_length_le (by rw [leN_length]; omega)]
    rw [e1, dec_le _ _ h1]
    simp only [rowsP_cut rs (m - 8) h2 (by omega)]
theorem By.leN (m : Nat) (n : Int) : By (leN m n) := leN_bytes m n
theorem By.append {a b : List Int} (ha : By a) (hb : By b) : By (a ++ b) := fun x hx => (List.mem_append.1 hx).elim (ha x) (hb x)
theorem By.flt {rs : List (List Int)} (h : ∀ r ∈ rs, By r) : By (flt rs) := fun x hx => by
  obtain ⟨r, hr, hx⟩ := List.mem_flatMap.1 hx
  exact (By.append (By.leN 8 _) (h r hr)) x hx
theorem By.pack {rs : List (List Int)} (h : ∀ r ∈ rs, By r) : By (packP rs) := by
  rw [packP_eq]
  exact By.append (By.leN 8 _) (By.flt h)
theorem flt_le (rs : List (List Int)) (M : Nat) (h : ∀ r ∈ rs, r.length ≤ M) : (flt rs).length ≤ rs.length * (M + 8) := by
  induction rs with
  | nil => simp [flt]
  | cons a l ih =>
    have g1 := ih (fun q hq => h q (List.mem_cons_of_mem _ hq))
    have g2 := h a List.mem_cons_self
    rw [flt_cons, List.length_append, List.length_append, leN_length, List.length_cons, Nat.succ_mul]
    omega
end Go.Abs.S
