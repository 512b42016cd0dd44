/- Rows as one, over lists: a number's eight bytes; the rows' number, then each row with its length ahead. Different lists of rows are different as one. Conditions: lengths below 2^63. -/
import Derived.Test.YtldfdofeecmhoaaDoorPureLib
namespace Go.Proofs.YtldfdofeecmhoaaDoor.PL
/-- The lowest bytes of a number, the lowest first. -/
def leN : Nat → Int → List Int
  | 0, _ => []
  | m + 1, n => n % 256 :: leN m (n / 256)
theorem leN_length : ∀ (m : Nat) (n : Int), (leN m n).length = m
  | 0, _ => rfl
  | m + 1, n => by simp [leN, leN_length m]
theorem leN_bytes : ∀ (m : Nat) (n : Int), ∀ y ∈ leN m n, 0 ≤ y ∧ y ≤ 255
  | 0, _, y, hy => by simp [leN] at hy
  | m + 1, n, y, hy => by
    simp only [leN, List.mem_cons] at hy
    rcases hy with rfl | hy
    · omega
    · exact leN_bytes m _ y hy
theorem leN_inj : ∀ (m : Nat) (x y : Int), 0 ≤ x → 0 ≤ y → x < 256 ^ m → y < 256 ^ m → leN m x = leN m y → x = y
  | 0, x, y, h1, h2, h3, h4, _ => by simp at h3 h4; omega
  | m + 1, x, y, h1, h2, h3, h4, h => by
    simp only [leN, List.cons.injEq] at h
    obtain ⟨h5, h6⟩ := h
    have e : (256 : Int) ^ (m + 1) = 256 ^ m * 256 := Int.pow_succ 256 m
    rw [e] at h3 h4
    have := leN_inj m (x / 256) (y / 256) (by omega) (by omega) (Int.ediv_lt_of_lt_mul (by decide) h3) (Int.ediv_lt_of_lt_mul (by decide) h4) h6
    omega
/-- Rows, each with its length ahead. -/
def body : List (List Int) → List Int
  | [] => []
  | p :: ps => leN 8 (p.length : Int) ++ (p ++ body ps)
/-- Rows as one. -/
def pack (l : List (List Int)) : List Int := leN 8 (l.length : Int) ++ body l
theorem body_snoc (l : List (List Int)) (p : List Int) : body (l ++ [p]) = body l ++ leN 8 (p.length : Int) ++ p := by
  induction l with
  | nil => simp [body]
  | cons q l ih => simp [body, ih]
theorem body_bytes (l : List (List Int)) (h : ∀ p ∈ l, ∀ y ∈ p, 0 ≤ y ∧ y ≤ 255) : ∀ y ∈ body l, 0 ≤ y ∧ y ≤ 255 := by
  induction l with
  | nil => intro y hy; simp [body] at hy
  | cons q l ih =>
    intro y hy
    simp only [body, List.mem_append] at hy
    rcases hy with hy | hy | hy
    · exact leN_bytes 8 _ y hy
    · exact h q (by simp) y hy
    · exact ih (fun p hp => h p (by simp [hp])) y hy
theorem pack_bytes (l : List (List Int)) (h : ∀ p ∈ l, ∀ y ∈ p, 0 ≤ y ∧ y ≤ 255) : ∀ y ∈ pack l, 0 ≤ y ∧ y ≤ 255 := by
  intro y hy
  rcases List.mem_append.1 hy with hy | hy
  · exact leN_bytes 8 _ y hy
  · exact body_bytes l h y hy
theorem body_length (l : List (List Int)) (m : Nat) (h : ∀ p ∈ l, p.length ≤ m) : (body l).length ≤ l.length * (8 + m) := by
  induction l with
  | nil => simp [body]
  | cons q l ih =>
    have h1 := ih (fun p hp => h p (by simp [hp]))
    have h2 := h q (by simp)
    simp only [body, List.length_append, leN_length, List.length_cons]
    rw [Nat.succ_mul]
    omega
theorem body_inj : ∀ (a b : List (List Int)) (r s : List Int), a.length = b.length → (∀ p ∈ a, p.length < 9223372036854775808) → (∀ p ∈ b, p.length < 9223372036854775808) → body a ++ r = body b ++ s → a = b ∧ r = s
  | [], [], r, s, _, _, _, h => ⟨rfl, by simpa [body] using h⟩
  | p :: a, q :: b, r, s, hl, ha, hb, h => by
    simp only [body, List.append_assoc] at h
    have h1 := List.append_inj h (by rw [leN_length, leN_length])
    have hp := ha p (by simp)
    have hq := hb q (by simp)
    have e : (p.length : Int) = q.length := leN_inj 8 _ _ (by omega) (by omega) (by omega) (by omega) h1.1
    have h2 := List.append_inj h1.2 (by omega)
    have h3 := body_inj a b r s (by simpa using hl) (fun p hp => ha p (by simp [hp])) (fun p hp => hb p (by simp [hp])) h2.2
    exact ⟨by rw [h2.1, h3.1], h3.2⟩
theorem pack_inj (a b : List (List Int)) (la : a.length < 9223372036854775808) (lb : b.length < 9223372036854775808) (ha : ∀ p ∈ a, p.length < 9223372036854775808) (hb : ∀ p ∈ b, p.length < 9223372036854775808) (h : pack a = pack b) : a = b := by
  have h1 := List.append_inj h (by rw [leN_length, leN_length])
  have e : (a.length : Int) = b.length := leN_inj 8 _ _ (by omega) (by omega) (by omega) (by omega) h1.1
  exact (body_inj a b [] [] (by omega) ha hb (by simpa using h1.2)).1
end Go.Proofs.YtldfdofeecmhoaaDoor.PL
