/- coin: rows out of bytes, plainly. -/
import Derived.Test.YtldfdofeecmhoaaDoorNumA
namespace Go.Abs.S
open Go.Proofs
open Go.Proofs.YtldfdofeecmhoaaDoor.Back (fold fold_snoc upto upto_succ back)
set_option linter.unusedVariables false
set_option linter.unusedSimpArgs false
abbrev By (l : List Int) : Prop := ∀ x ∈ l, 0 ≤ x ∧ x ≤ 255
def val : List Int → Int
  | [] => 0
  | z :: r => z + 256 * val r
theorem val_ge : ∀ {l : List Int}, By l → 0 ≤ val l
  | [], _ => by simp [val]
  | z :: r, h => by
    have := val_ge (l := r) (fun x hx => h x (List.mem_cons_of_mem _ hx))
    have := h z List.mem_cons_self
    simp only [val]
    omega
theorem val_lt : ∀ {l : List Int}, By l → val l < 256 ^ l.length
  | [], _ => by simp [val]
  | z :: r, h => by
    have := val_lt (l := r) (fun x hx => h x (List.mem_cons_of_mem _ hx))
    have := h z List.mem_cons_self
    simp only [val, List.length_cons, Int.pow_succ]
    omega
theorem orB (a z : Int) (h0 : 0 ≤ a) (h1 : a < 256 ^ 7) (hz : 0 ≤ z ∧ z ≤ 255) : bits .or .u64 (IntKind.u64.wrap (a * 256)) (IntKind.u64.wrap z) = z + 256 * a := by
  have e1 : IntKind.u64.wrap (a * 256) = a * 256 := by rw [IntKind.wrap_u64]; simp only [Int.reducePow] at h1; omega
  have e2 : IntKind.u64.wrap z = z := by rw [IntKind.wrap_u64]; omega
  rw [e1, e2]
  simp only [Int.reducePow] at h1
  have := bits_join .u64 64 (by decide) (fun n h0 h1 => by rw [IntKind.wrap_u64]; omega) 8 (a * 256) z (by omega) (by simp only [Int.reducePow]; omega) (by omega) (by omega) (by simp only [Int.reducePow]; omega) (by omega)
  rw [this]
  omega
theorem fold_val (Z : List Int) (hZ : By Z) (h8 : Z.length ≤ 8) : ∀ k, k ≤ Z.length → fold (upto (back Z Z.length) k) = val (Z.drop (Z.length - k))
  | 0, _ => by simp [upto, fold, val]
  | k + 1, hk => by
    have ih := fold_val Z hZ h8 k (by omega)
    have hb : By (Z.drop (Z.length - k)) := fun x hx => hZ x (List.mem_of_mem_drop hx)
    have hd : Z.drop (Z.length - (k + 1)) = Z.getD (Z.length - (k + 1)) 0 :: Z.drop (Z.length - k) := by
      rw [List.drop_eq_getElem_cons (by omega), show Z.length - (k + 1) + 1 = Z.length - k from by omega]
      congr 1
      rw [List.getD_eq_getElem?_getD, List.getElem?_eq_getElem (by omega)]
      rfl
    rw [upto_succ, fold_snoc, ih, hd]
    have hz : (back Z Z.length k).2 = Z.getD (Z.length - (k + 1)) 0 := by
      simp only [back, List.getD_eq_getElem?_getD]
      rw [show Z.length - 1 - k = Z.length - (k + 1) from by omega]
    rw [hz]
    have hlt := val_lt hb
    have hle : (256 : Int) ^ (Z.drop (Z.length - k)).length ≤ 256 ^ 7 := by
      have : (Z.drop (Z.length - k)).length ≤ 7 := by rw [List.length_drop]; omega
      have h : ∀ m, m < 8 → (256 : Int) ^ m ≤ 256 ^ 7 := by decide
      exact h _ (by omega)
    exact orB _ _ (val_ge hb) (by omega) (by
      rw [List.getD_eq_getElem?_getD, List.getElem?_eq_getElem (by omega)]
      exact hZ _ (List.getElem_mem _))
theorem foldB_val (Z : List Int) (hZ : By Z) (h8 : Z.length ≤ 8) : foldB Z = val Z := by
  have := fold_val Z hZ h8 Z.length (Nat.le_refl _)
  rwa [Nat.sub_self, List.drop_zero] at this
/-- A number, and what is behind it. -/
def dec (B : List Int) : Option (Nat × List Int) := if B.length < 8 ∨ val (B.take 8) > 2147483647 then none else some ((val (B.take 8)).toNat, B.drop 8)
theorem numP_some {B : List Int} (hB : By B) {k : Nat} {R : List Int} (h : dec B = some (k, R)) : numP B false = ((k : Int), R, false) := by
  unfold dec at h
  split at h
  · cases h
  · rename_i hn
    simp only [Option.some.injEq, Prod.mk.injEq] at h
    obtain ⟨rfl, rfl⟩ := h
    have h1 : ¬ (false = true ∨ (B.length : Int) < 8) := by simp; omega
    have ht : takeP B false 8 = (B.take 8, B.drop 8, false) := by unfold takeP; rw [if_neg h1]; rfl
    have hb : By (B.take 8) := fun x hx => hB x (List.mem_of_mem_take hx)
    have hv := foldB_val (B.take 8) hb (by rw [List.length_take]; omega)
    have hg := val_ge hb
    unfold numP
    rw [ht]
    simp only [hv]
    rw [if_neg (by omega)]
    congr 1
    rw [IntKind.wrap_i64]
    omega
theorem numP_none {B : List Int} (hB : By B) (h : dec B = none) : (numP B false).1 = 0 ∧ (numP B false).2.2 = true := by
  unfold dec at h
  split at h
  · rename_i hn
    by_cases hl : B.length < 8
    · have ht : takeP B false 8 = ([], B, true) := by unfold takeP; rw [if_pos (by right; omega)]
      unfold numP
      rw [ht]
      have : foldB [] = 0 := rfl
      simp [this]
      decide
    · have hbig : val (B.take 8) > 2147483647 := by
        rcases hn with h | h
        · exact absurd h hl
        · exact h
      have h1 : ¬ (false = true ∨ (B.length : Int) < 8) := by simp; omega
      have ht : takeP B false 8 = (B.take 8, B.drop 8, false) := by unfold takeP; rw [if_neg h1]; rfl
      have hb : By (B.take 8) := fun x hx => hB x (List.mem_of_mem_take hx)
      have hv := foldB_val (B.take 8) hb (by rw [List.length_take]; omega)
      unfold numP
      rw [ht]
      simp only [hv]
      rw [if_pos hbig]
      exact ⟨rfl, rfl⟩
  · cases h
theorem numP_short (B : List Int) : numP B true = (0, B, true) := by
  have ht : takeP B true 8 = ([], B, true) := by unfold takeP; rw [if_pos (.inl rfl)]
  unfold numP
  rw [ht]
  have : foldB [] = 0 := rfl
  simp [this]
  decide
/-- So many rows, as the document reads them. -/
def rowsP : Nat → List Int → Option (List (List Int) × List Int)
  | 0, B => some ([], B)
  | n + 1, B => match dec B with
    | none => none
    | some (k, R) => if R.length < k then none else match rowsP n (R.drop k) with
      | none => none
      | some (rs, E) => some (R.take k :: rs, E)
/-- So many rounds of the program: what came, what is left, whether there was too little. -/
def loopP : Nat → List Int → Bool → List (List Int) × List Int × Bool
  | 0, B, sh => ([], B, sh)
  | n + 1, B, true => ([], B, true)
  | n + 1, B, false => ((takeP (numP B false).2.1 (numP B false).2.2 (numP B false).1).1 :: (loopP n (takeP (numP B false).2.1 (numP B false).2.2 (numP B false).1).2.1 (takeP (numP B false).2.1 (numP B false).2.2 (numP B false).1).2.2).1,
    (loopP n (takeP (numP B false).2.1 (numP B false).2.2 (numP B false).1).2.1 (takeP (numP B false).2.1 (numP B false).2.2 (numP B false).1).2.2).2)
theorem dec_by {B : List Int} (hB : By B) {k : Nat} {R : List Int} (h : dec B = some (k, R)) : By R ∧ R.length + 8 = B.length := by
  unfold dec at h
  split at h
  · cases h
  · rename_i hn
    simp only [Option.some.injEq, Prod.mk.injEq] at h
    obtain ⟨_, rfl⟩ := h
    exact ⟨fun x hx => hB x (List.mem_of_mem_drop hx), by rw [List.length_drop]; omega⟩
theorem loopP_short : ∀ (n : Nat) (B : List Int), loopP n B true = ([], B, true)
  | 0, B => rfl
  | n + 1, B => rfl
theorem loopP_rows : ∀ (n : Nat) (B : List Int), By B → match rowsP n B with
    | some (rs, E) => loopP n B false = (rs, E, false)
    | none => (loopP n B false).2.2 = true
  | 0, B, hB => rfl
  | n + 1, B, hB => by
    cases hd : dec B with
    | none =>
      have h1 := numP_none hB hd
      have hr : rowsP (n + 1) B = none := by simp only [rowsP, hd]
      rw [hr]
      simp only [loopP]
      rw [h1.2]
      have ht : ∀ X m, takeP X true m = ([], X, true) := fun X m => by unfold takeP; rw [if_pos (.inl rfl)]
      rw [ht, loopP_short]
    | some x =>
      obtain ⟨k, R⟩ := x
      have h1 := numP_some hB hd
      obtain ⟨h2, h3⟩ := dec_by hB hd
      by_cases hk : R.length < k
      · have hr : rowsP (n + 1) B = none := by simp only [rowsP, hd, if_pos hk]
        rw [hr]
        simp only [loopP, h1]
        have ht : takeP R false k = ([], R, true) := by unfold takeP; rw [if_pos (by right; omega)]
        rw [ht, loopP_short]
      · have ht : takeP R false k = (R.take k, R.drop k, false) := by unfold takeP; rw [if_neg (by simp; omega)]; rfl
        have ih := loopP_rows n (R.drop k) (fun x hx => h2 x (List.mem_of_mem_drop hx))
        cases hr : rowsP n (R.drop k) with
        | none =>
          have hr1 : rowsP (n + 1) B = none := by simp only [rowsP, hd, if_neg hk, hr]
          rw [hr1]
          rw [hr] at ih
          simp only [loopP, h1, ht]
          exact ih
        | some y =>
          obtain ⟨rs, E⟩ := y
          have hr1 : rowsP (n + 1) B = some (R.take k :: rs, E) := by simp only [rowsP, hd, if_neg hk, hr]
          rw [hr1]
          rw [hr] at ih
          simp only at ih
          simp only [loopP, h1, ht, ih]
/-- Rows out of bytes; the error. -/
def unp (B : List Int) : List (List Int) × Nat :=
  match dec B with
  | none => ([], 3)
  | some (n, R) => match rowsP n R with
    | none => ([], 3)
    | some (rs, E) => if E.length > 0 then ([], 2) else (rs, 0)
end Go.Abs.S
