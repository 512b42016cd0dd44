/- hour: years, months, days, plainly. -/
import Derived.WideShapes
namespace Go.Abs.H
set_option linter.unusedSimpArgs false
set_option linter.unusedVariables false
def leapB (y : Int) : Bool := decide (y % 4 = 0 ∧ (y % 100 ≠ 0 ∨ y % 400 = 0))
/-- A month's days. -/
def mdays (y m : Int) : Int := if y < 0 ∨ 9999 < y ∨ m < 1 ∨ 12 < m then 0 else if m = 2 then (if leapB y = true then 29 else 28) else if m = 4 ∨ m = 6 ∨ m = 9 ∨ m = 11 then 30 else 31
/-- Days from the year 0 to a year's beginning. -/
def aheadY (y : Int) : Int := y * 365 + (y + 3) / 4 - (y + 99) / 100 + (y + 399) / 400
/-- Days of so many months. -/
def msum (y : Int) : Nat → Int
  | 0 => 0
  | k + 1 => msum y k + mdays y (k + 1)
def lp (y : Int) : Int := if leapB y = true then 1 else 0
theorem lp_le (y : Int) : 0 ≤ lp y ∧ lp y ≤ 1 := by unfold lp; split <;> omega
theorem ahead_succ (y : Int) (h : 0 ≤ y) : aheadY (y + 1) = aheadY y + 365 + lp y := by
  unfold aheadY lp leapB
  simp only [decide_eq_true_eq]
  split <;> omega
theorem mdays_of {y m : Int} (h : 0 ≤ y ∧ y ≤ 9999) (h1 : 1 ≤ m) (h2 : m ≤ 12) : mdays y m = if m = 2 then 28 + lp y else if m = 4 ∨ m = 6 ∨ m = 9 ∨ m = 11 then 30 else 31 := by
  unfold mdays lp
  rw [if_neg (by omega)]
  split
  · split <;> rfl
  · rfl
theorem mdays_le (y m : Int) : 0 ≤ mdays y m ∧ mdays y m ≤ 31 := by
  unfold mdays
  split
  · omega
  split
  · split <;> omega
  · split <;> omega
theorem mdays_pos {y m : Int} (h : 1 ≤ mdays y m) : 0 ≤ y ∧ y ≤ 9999 ∧ 1 ≤ m ∧ m ≤ 12 := by
  unfold mdays at h
  split at h
  · omega
  · omega
theorem msum_tab {y : Int} (h : 0 ≤ y ∧ y ≤ 9999) : msum y 1 = 31 ∧ msum y 2 = 59 + lp y ∧ msum y 3 = 90 + lp y ∧ msum y 4 = 120 + lp y ∧ msum y 5 = 151 + lp y ∧ msum y 6 = 181 + lp y ∧ msum y 7 = 212 + lp y ∧ msum y 8 = 243 + lp y ∧ msum y 9 = 273 + lp y ∧ msum y 10 = 304 + lp y ∧ msum y 11 = 334 + lp y ∧ msum y 12 = 365 + lp y := by
  have e := fun (m : Int) (h1 : 1 ≤ m) (h2 : m ≤ 12) => mdays_of (m := m) h h1 h2
  have e1 := e 1 (by omega) (by omega)
  have e2 := e 2 (by omega) (by omega)
  have e3 := e 3 (by omega) (by omega)
  have e4 := e 4 (by omega) (by omega)
  have e5 := e 5 (by omega) (by omega)
  have e6 := e 6 (by omega) (by omega)
  have e7 := e 7 (by omega) (by omega)
  have e8 := e 8 (by omega) (by omega)
  have e9 := e 9 (by omega) (by omega)
  have e10 := e 10 (by omega) (by omega)
  have e11 := e 11 (by omega) (by omega)
  have e12 := e 12 (by omega) (by omega)
  simp at e1 e2 e3 e4 e5 e6 e7 e8 e9 e10 e11 e12
  have z0 : msum y 0 = 0 := rfl
  have z1 : msum y 1 = msum y 0 + mdays y 1 := rfl
  have z2 : msum y 2 = msum y 1 + mdays y 2 := rfl
  have z3 : msum y 3 = msum y 2 + mdays y 3 := rfl
  have z4 : msum y 4 = msum y 3 + mdays y 4 := rfl
  have z5 : msum y 5 = msum y 4 + mdays y 5 := rfl
  have z6 : msum y 6 = msum y 5 + mdays y 6 := rfl
  have z7 : msum y 7 = msum y 6 + mdays y 7 := rfl
  have z8 : msum y 8 = msum y 7 + mdays y 8 := rfl
  have z9 : msum y 9 = msum y 8 + mdays y 9 := rfl
  have z10 : msum y 10 = msum y 9 + mdays y 10 := rfl
  have z11 : msum y 11 = msum y 10 + mdays y 11 := rfl
  have z12 : msum y 12 = msum y 11 + mdays y 12 := rfl
  omega
theorem msum_mono (y : Int) : ∀ {a b : Nat}, a ≤ b → msum y a ≤ msum y b
  | 0, 0, h => Int.le_refl _
  | a + 1, 0, h => absurd h (by omega)
  | a, b + 1, h => by
    by_cases e : a = b + 1
    · subst e; exact Int.le_refl _
    · have := msum_mono y (a := a) (b := b) (by omega)
      have := (mdays_le y (b + 1)).1
      have e2 : msum y (b + 1) = msum y b + mdays y (b + 1) := rfl
      omega
theorem ahead_mono {a : Int} (ha : 0 ≤ a) : ∀ (k : Nat), aheadY a ≤ aheadY (a + k)
  | 0 => by simp
  | k + 1 => by
    have ih := ahead_mono ha k
    have h := ahead_succ (a + k) (by omega)
    have := (lp_le (a + k)).1
    have e : a + ((k + 1 : Nat) : Int) = a + k + 1 := by omega
    rw [e]
    omega
theorem ahead_le {a b : Int} (ha : 0 ≤ a) (h : a ≤ b) : aheadY a ≤ aheadY b := by
  have := ahead_mono ha (b - a).toNat
  rwa [show a + ((b - a).toNat : Int) = b from by omega] at this
/-- A date that is one. -/
structure Date where
  y : Int
  m : Int
  d : Int
def Date.ok (x : Date) : Prop := 1 ≤ x.d ∧ x.d ≤ mdays x.y x.m
theorem Date.ok.all {x : Date} (h : x.ok) : 0 ≤ x.y ∧ x.y ≤ 9999 ∧ 1 ≤ x.m ∧ x.m ≤ 12 ∧ 1 ≤ x.d ∧ x.d ≤ 31 := by
  have h1 := mdays_pos (y := x.y) (m := x.m) (by have := h.1; have := h.2; omega)
  have h2 := mdays_le x.y x.m
  have := h.1
  have := h.2
  omega
/-- Days from the year 0 to it. -/
def dayN (x : Date) : Int := aheadY x.y + msum x.y (x.m - 1).toNat + x.d - 1
theorem day_in {x : Date} (h : x.ok) : msum x.y (x.m - 1).toNat ≤ dayN x - aheadY x.y ∧ dayN x - aheadY x.y < msum x.y x.m.toNat ∧ msum x.y x.m.toNat ≤ 365 + lp x.y := by
  have ha := h.all
  have e : msum x.y x.m.toNat = msum x.y (x.m - 1).toNat + mdays x.y x.m := by
    have : x.m.toNat = (x.m - 1).toNat + 1 := by omega
    rw [this]
    show msum x.y (x.m - 1).toNat + mdays x.y (((x.m - 1).toNat : Int) + 1) = _
    rw [show (((x.m - 1).toNat : Int) + 1) = x.m from by omega]
  have h12 := (msum_tab (y := x.y) ⟨ha.1, ha.2.1⟩).2.2.2.2.2.2.2.2.2.2.2
  have hm := msum_mono x.y (a := x.m.toNat) (b := 12) (by omega)
  have := h.1
  have := h.2
  unfold dayN
  omega
theorem day_year {x : Date} (h : x.ok) : aheadY x.y ≤ dayN x ∧ dayN x < aheadY (x.y + 1) := by
  have ha := h.all
  have h1 := day_in h
  have h2 := ahead_succ x.y ha.1
  have h0 : 0 ≤ msum x.y (x.m - 1).toNat := msum_mono x.y (a := 0) (Nat.zero_le _)
  omega
/-- The order of dates is that of their days. -/
theorem day_lt {x z : Date} (hx : x.ok) (hz : z.ok) (h : x.y < z.y ∨ (x.y = z.y ∧ (x.m < z.m ∨ (x.m = z.m ∧ x.d < z.d)))) : dayN x < dayN z := by
  have ax := hx.all
  have az := hz.all
  rcases h with h | ⟨h, h' | ⟨h', h''⟩⟩
  · have h1 := day_year hx
    have h2 := day_year hz
    have := ahead_le (a := x.y + 1) (b := z.y) (by omega) (by omega)
    omega
  · have h1 := day_in hx
    have h2 := day_in hz
    have := msum_mono x.y (a := x.m.toNat) (b := (z.m - 1).toNat) (by omega)
    rw [← h] at h2
    omega
  · unfold dayN
    rw [h, h']
    omega
theorem day_inj {x z : Date} (hx : x.ok) (hz : z.ok) (h : dayN x = dayN z) : x = z := by
  have n1 := fun q => day_lt hx hz q
  have n2 := fun q => day_lt hz hx q
  have e1 : x.y = z.y := by
    rcases Int.lt_trichotomy x.y z.y with q | q | q
    · have := n1 (.inl q); omega
    · exact q
    · have := n2 (.inl q); omega
  have e2 : x.m = z.m := by
    rcases Int.lt_trichotomy x.m z.m with q | q | q
    · have := n1 (.inr ⟨e1, .inl q⟩); omega
    · exact q
    · have := n2 (.inr ⟨e1.symm, .inl q⟩); omega
  have e3 : x.d = z.d := by
    rcases Int.lt_trichotomy x.d z.d with q | q | q
    · have := n1 (.inr ⟨e1, .inr ⟨e2, q⟩⟩); omega
    · exact q
    · have := n2 (.inr ⟨e1.symm, .inr ⟨e2.symm, q⟩⟩); omega
  cases x
  cases z
  simp_all
theorem ahead_last : aheadY 10000 = 3652425 := by decide
theorem ahead_zero : aheadY 0 = 0 := by decide
theorem day_bound {x : Date} (h : x.ok) : 0 ≤ dayN x ∧ dayN x < 3652425 := by
  have ha := h.all
  have h1 := day_year h
  have h2 := ahead_le (a := 0) (b := x.y) (by omega) ha.1
  have h3 := ahead_le (a := x.y + 1) (b := 10000) (by omega) (by omega)
  rw [ahead_zero] at h2
  rw [ahead_last] at h3
  omega
/-- Each day has a date. -/
theorem year_of (D : Int) (h0 : 0 ≤ D) (k : Nat) : D < aheadY k → ∃ y : Nat, y < k ∧ aheadY y ≤ D ∧ D < aheadY (y + 1) := by
  induction k with
  | zero =>
    intro h
    have : aheadY ((0 : Nat) : Int) = 0 := ahead_zero
    omega
  | succ k ih =>
    intro h
    by_cases hk : D < aheadY k
    · obtain ⟨y, h1, h2⟩ := ih hk
      exact ⟨y, by omega, h2⟩
    · exact ⟨k, by omega, by omega, by rw [Int.natCast_succ] at h; exact h⟩
theorem month_of (y : Int) (R : Int) (h0 : 0 ≤ R) : ∀ (k : Nat), R < msum y k → ∃ m : Nat, m < k ∧ msum y m ≤ R ∧ R < msum y (m + 1)
  | 0, h => by
    have : msum y 0 = 0 := rfl
    omega
  | k + 1, h => by
    by_cases hk : R < msum y k
    · obtain ⟨m, h1, h2⟩ := month_of y R h0 k hk
      exact ⟨m, by omega, h2⟩
    · exact ⟨k, by omega, by omega, h⟩
theorem date_of (D : Int) (h0 : 0 ≤ D) (h1 : D < 3652425) : ∃ x : Date, x.ok ∧ dayN x = D := by
  obtain ⟨y, hy, hy1, hy2⟩ := year_of D h0 10000 (by have : aheadY ((10000 : Nat) : Int) = 3652425 := ahead_last; omega)
  have h2 := ahead_succ y (by omega)
  have h3 := (msum_tab (y := (y : Int)) ⟨by omega, by omega⟩).2.2.2.2.2.2.2.2.2.2.2
  obtain ⟨m, hm, hm1, hm2⟩ := month_of y (D - aheadY y) (by omega) 12 (by omega)
  have e : msum (y : Int) (m + 1) = msum y m + mdays y (m + 1) := rfl
  refine ⟨⟨y, (m : Int) + 1, D - aheadY y - msum y m + 1⟩, ⟨?_, ?_⟩, ?_⟩
  · show 1 ≤ D - aheadY y - msum y m + 1
    omega
  · show D - aheadY y - msum y m + 1 ≤ mdays y ((m : Int) + 1)
    omega
  · show aheadY y + msum y (((m : Int) + 1 - 1)).toNat + (D - aheadY y - msum y m + 1) - 1 = D
    rw [show (((m : Int) + 1 - 1)).toNat = m from by omega]
    omega
/-- A moment that is one. -/
structure Mom where
  x : Date
  h : Int
  i : Int
  s : Int
def Mom.ok (t : Mom) : Prop := t.x.ok ∧ 0 ≤ t.h ∧ t.h ≤ 23 ∧ 0 ≤ t.i ∧ t.i ≤ 59 ∧ 0 ≤ t.s ∧ t.s ≤ 59
def secs (t : Mom) : Int := (dayN t.x - 719528) * 86400 + t.h * 3600 + t.i * 60 + t.s
def tFirst : Int := -62167219200
def tLast : Int := 253402300799
theorem secs_in {t : Mom} (h : t.ok) : tFirst ≤ secs t ∧ secs t ≤ tLast := by
  have h1 := day_bound h.1
  obtain ⟨_, h2⟩ := h
  unfold secs tFirst tLast
  omega
theorem secs_lt {a b : Mom} (ha : a.ok) (hb : b.ok) (h : dayN a.x < dayN b.x ∨ (dayN a.x = dayN b.x ∧ (a.h < b.h ∨ (a.h = b.h ∧ (a.i < b.i ∨ (a.i = b.i ∧ a.s < b.s)))))) : secs a < secs b := by
  obtain ⟨_, h2⟩ := ha
  obtain ⟨_, h3⟩ := hb
  unfold secs
  omega
theorem secs_parts {t : Mom} (h : t.ok) : (secs t + 62167219200) / 86400 = dayN t.x ∧ (secs t + 62167219200) % 86400 / 3600 = t.h ∧ (secs t + 62167219200) % 86400 % 3600 / 60 = t.i ∧ (secs t + 62167219200) % 86400 % 60 = t.s := by
  obtain ⟨_, h2⟩ := h
  unfold secs
  refine ⟨by omega, by omega, by omega, by omega⟩
theorem secs_inj {a b : Mom} (ha : a.ok) (hb : b.ok) (h : secs a = secs b) : a = b := by
  have h1 := secs_parts ha
  have h2 := secs_parts hb
  rw [h] at h1
  have hd := day_inj ha.1 hb.1 (h1.1.symm.trans h2.1)
  cases a
  cases b
  simp only at hd h1 h2
  subst hd
  obtain ⟨_, e1, e2, e3⟩ := h1
  obtain ⟨_, f1, f2, f3⟩ := h2
  simp only [Mom.mk.injEq, true_and]
  exact ⟨e1.symm.trans f1, e2.symm.trans f2, e3.symm.trans f3⟩
theorem mom_of (n : Int) (h0 : tFirst ≤ n) (h1 : n ≤ tLast) : ∃ t : Mom, t.ok ∧ secs t = n := by
  unfold tFirst at h0
  unfold tLast at h1
  obtain ⟨x, hx, hd⟩ := date_of ((n + 62167219200) / 86400) (by omega) (by omega)
  refine ⟨⟨x, (n + 62167219200) % 86400 / 3600, (n + 62167219200) % 86400 % 3600 / 60, (n + 62167219200) % 86400 % 60⟩, ⟨hx, ?_⟩, ?_⟩
  · simp only
    omega
  · unfold secs
    simp only
    rw [hd]
    omega
end Go.Abs.H
