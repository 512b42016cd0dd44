/- hour: what a text tells, plainly. -/
import Derived.Test.YtjmalnoehmgenaaDoorHouJ
import Derived.Test.YtjmalnoehmgenaaDoorCoiPure
namespace Go.Abs.S
open Go.Proofs
open Go.Abs.H
set_option linter.unusedVariables false
set_option linter.unusedSimpArgs false
set_option maxRecDepth 100000
set_option maxHeartbeats 4000000
theorem okc_d {a : Int} : okc a 100 ↔ (48 ≤ a ∧ a ≤ 57) := by unfold okc; omega
theorem okc_s {a c : Int} (h : c ≠ 100) (h2 : ¬ (48 ≤ c ∧ c ≤ 57)) : okc a c ↔ a = c := by unfold okc; omega
theorem ext_size (s : ByteArray) (a b : Nat) : (s.extract a b).size = min b s.size - a := by simp
theorem bt_ext (s : ByteArray) (a b i : Nat) (h : a + i < b) : bt (s.extract a b) i = bt s (a + i) := by
  unfold bt
  rw [Go.Abs.C.ext_list]
  simp only [List.getD_eq_getElem?_getD, List.getElem?_drop, List.getElem?_take]
  rw [if_pos h]
abbrev dg (s : ByteArray) (i : Nat) : Prop := 48 ≤ bt s i ∧ bt s i ≤ 57
abbrev F19 : ByteArray := ⟨#[100, 100, 100, 100, 45, 100, 100, 45, 100, 100, 84, 100, 100, 58, 100, 100, 58, 100, 100]⟩
abbrev FP : ByteArray := ⟨#[43, 100, 100, 58, 100, 100]⟩
abbrev FM : ByteArray := ⟨#[45, 100, 100, 58, 100, 100]⟩
def D19 (s : ByteArray) : Prop := (dg s 0 ∧ dg s 1 ∧ dg s 2 ∧ dg s 3) ∧ bt s 4 = 45 ∧ (dg s 5 ∧ dg s 6) ∧ bt s 7 = 45 ∧ (dg s 8 ∧ dg s 9) ∧ bt s 10 = 84 ∧ (dg s 11 ∧ dg s 12) ∧ bt s 13 = 58 ∧ (dg s 14 ∧ dg s 15) ∧ bt s 16 = 58 ∧ (dg s 17 ∧ dg s 18)
instance (s : ByteArray) : Decidable (D19 s) := inferInstanceAs (Decidable (_ ∧ _))
theorem f19_size : F19.size = 19 := rfl
theorem fits19 (s : ByteArray) (h : s.size = 19) : Fits s F19 ↔ D19 s := by
  unfold Fits D19
  rw [f19_size, h]
  constructor
  · rintro ⟨_, hk⟩
    have g := fun i (hi : i < 19) => hk i hi
    refine ⟨⟨okc_d.1 (g 0 (by omega)), okc_d.1 (g 1 (by omega)), okc_d.1 (g 2 (by omega)), okc_d.1 (g 3 (by omega))⟩, (okc_s (by decide) (by decide)).1 (g 4 (by omega)), ⟨okc_d.1 (g 5 (by omega)), okc_d.1 (g 6 (by omega))⟩, (okc_s (by decide) (by decide)).1 (g 7 (by omega)), ⟨okc_d.1 (g 8 (by omega)), okc_d.1 (g 9 (by omega))⟩, (okc_s (by decide) (by decide)).1 (g 10 (by omega)), ⟨okc_d.1 (g 11 (by omega)), okc_d.1 (g 12 (by omega))⟩, (okc_s (by decide) (by decide)).1 (g 13 (by omega)), ⟨okc_d.1 (g 14 (by omega)), okc_d.1 (g 15 (by omega))⟩, (okc_s (by decide) (by decide)).1 (g 16 (by omega)), ⟨okc_d.1 (g 17 (by omega)), okc_d.1 (g 18 (by omega))⟩⟩
  · rintro ⟨⟨h0, h1, h2, h3⟩, h4, ⟨h5, h6⟩, h7, ⟨h8, h9⟩, h10, ⟨h11, h12⟩, h13, ⟨h14, h15⟩, h16, ⟨h17, h18⟩⟩
    refine ⟨rfl, fun i hi => ?_⟩
    have hc : i = 0 ∨ i = 1 ∨ i = 2 ∨ i = 3 ∨ i = 4 ∨ i = 5 ∨ i = 6 ∨ i = 7 ∨ i = 8 ∨ i = 9 ∨ i = 10 ∨ i = 11 ∨ i = 12 ∨ i = 13 ∨ i = 14 ∨ i = 15 ∨ i = 16 ∨ i = 17 ∨ i = 18 := by omega
    rcases hc with rfl | rfl | rfl | rfl | rfl | rfl | rfl | rfl | rfl | rfl | rfl | rfl | rfl | rfl | rfl | rfl | rfl | rfl | rfl
    · exact okc_d.2 h0
    · exact okc_d.2 h1
    · exact okc_d.2 h2
    · exact okc_d.2 h3
    · exact (okc_s (by decide) (by decide)).2 h4
    · exact okc_d.2 h5
    · exact okc_d.2 h6
    · exact (okc_s (by decide) (by decide)).2 h7
    · exact okc_d.2 h8
    · exact okc_d.2 h9
    · exact (okc_s (by decide) (by decide)).2 h10
    · exact okc_d.2 h11
    · exact okc_d.2 h12
    · exact (okc_s (by decide) (by decide)).2 h13
    · exact okc_d.2 h14
    · exact okc_d.2 h15
    · exact (okc_s (by decide) (by decide)).2 h16
    · exact okc_d.2 h17
    · exact okc_d.2 h18
/-- A shift's form, its sign c. -/
def DSh (c : Int) (s : ByteArray) : Prop := bt s 0 = c ∧ (dg s 1 ∧ dg s 2) ∧ bt s 3 = 58 ∧ (dg s 4 ∧ dg s 5)
theorem fitsP (s : ByteArray) : Fits s FP ↔ s.size = 6 ∧ DSh 43 s := by
  unfold Fits DSh
  have e : FP.size = 6 := rfl
  rw [e]
  constructor
  · rintro ⟨hs, hk⟩
    have g := fun i (hi : i < 6) => hk i (by omega)
    exact ⟨hs, (okc_s (by decide) (by decide)).1 (g 0 (by omega)), ⟨okc_d.1 (g 1 (by omega)), okc_d.1 (g 2 (by omega))⟩, (okc_s (by decide) (by decide)).1 (g 3 (by omega)), ⟨okc_d.1 (g 4 (by omega)), okc_d.1 (g 5 (by omega))⟩⟩
  · rintro ⟨hs, h0, ⟨h1, h2⟩, h3, ⟨h4, h5⟩⟩
    refine ⟨hs, fun i hi => ?_⟩
    have hc : i = 0 ∨ i = 1 ∨ i = 2 ∨ i = 3 ∨ i = 4 ∨ i = 5 := by omega
    rcases hc with rfl | rfl | rfl | rfl | rfl | rfl
    · exact (okc_s (by decide) (by decide)).2 h0
    · exact okc_d.2 h1
    · exact okc_d.2 h2
    · exact (okc_s (by decide) (by decide)).2 h3
    · exact okc_d.2 h4
    · exact okc_d.2 h5
theorem fitsM (s : ByteArray) : Fits s FM ↔ s.size = 6 ∧ DSh 45 s := by
  unfold Fits DSh
  have e : FM.size = 6 := rfl
  rw [e]
  constructor
  · rintro ⟨hs, hk⟩
    have g := fun i (hi : i < 6) => hk i (by omega)
    exact ⟨hs, (okc_s (by decide) (by decide)).1 (g 0 (by omega)), ⟨okc_d.1 (g 1 (by omega)), okc_d.1 (g 2 (by omega))⟩, (okc_s (by decide) (by decide)).1 (g 3 (by omega)), ⟨okc_d.1 (g 4 (by omega)), okc_d.1 (g 5 (by omega))⟩⟩
  · rintro ⟨hs, h0, ⟨h1, h2⟩, h3, ⟨h4, h5⟩⟩
    refine ⟨hs, fun i hi => ?_⟩
    have hc : i = 0 ∨ i = 1 ∨ i = 2 ∨ i = 3 ∨ i = 4 ∨ i = 5 := by omega
    rcases hc with rfl | rfl | rfl | rfl | rfl | rfl
    · exact (okc_s (by decide) (by decide)).2 h0
    · exact okc_d.2 h1
    · exact okc_d.2 h2
    · exact (okc_s (by decide) (by decide)).2 h3
    · exact okc_d.2 h4
    · exact okc_d.2 h5
def n2 (s : ByteArray) (i : Nat) : Int := (bt s i - 48) * 10 + (bt s (i + 1) - 48)
def n4 (s : ByteArray) (i : Nat) : Int := (((bt s i - 48) * 10 + (bt s (i + 1) - 48)) * 10 + (bt s (i + 2) - 48)) * 10 + (bt s (i + 3) - 48)
def momS (s : ByteArray) : Mom := ⟨⟨n4 s 0, n2 s 5, n2 s 8⟩, n2 s 11, n2 s 14, n2 s 17⟩
/-- The shift's form at place 19. -/
def E25 (s : ByteArray) : Prop := (bt s 19 = 43 ∨ bt s 19 = 45) ∧ (dg s 20 ∧ dg s 21) ∧ bt s 22 = 58 ∧ (dg s 23 ∧ dg s 24)
instance (s : ByteArray) : Decidable (E25 s) := inferInstanceAs (Decidable (_ ∧ _))
def Formed (s : ByteArray) : Prop := D19 s ∧ ((s.size = 20 ∧ bt s 19 = 90) ∨ (s.size = 25 ∧ E25 s))
instance (s : ByteArray) : Decidable (Formed s) := inferInstanceAs (Decidable (_ ∧ _))
def shf (s : ByteArray) : Int := if s.size = 20 then 0 else if bt s 19 = 43 then -(n2 s 20 * 3600 + n2 s 23 * 60) else n2 s 20 * 3600 + n2 s 23 * 60
instance (t : Mom) : Decidable t.ok := inferInstanceAs (Decidable (_ ∧ _))
/-- What a text tells, and the error. -/
def readP (s : ByteArray) : Int × Int :=
  if ¬ Formed s then (0, 2)
  else if s.size = 25 ∧ (23 < n2 s 20 ∨ 59 < n2 s 23) then (0, 12)
  else if ¬ (momS s).ok then (0, 12)
  else if ¬ (tFirst ≤ secs (momS s) + shf s ∧ secs (momS s) + shf s ≤ tLast) then (0, 12)
  else (secs (momS s) + shf s, 0)
theorem dg_ext (s : ByteArray) (a b i : Nat) (h : a + i < b) : dg (s.extract a b) i ↔ dg s (a + i) := by
  unfold dg
  rw [bt_ext s a b i h]
theorem allD2 (s : ByteArray) (a : Nat) (hs : a + 2 ≤ s.size) : AllD (s.extract a (a + 2)) ↔ (dg s a ∧ dg s (a + 1)) := by
  unfold AllD
  have hz : (s.extract a (a + 2)).size = 2 := by rw [ext_size]; omega
  rw [hz]
  have e0 := bt_ext s a (a + 2) 0 (by omega)
  have e1 := bt_ext s a (a + 2) 1 (by omega)
  constructor
  · intro h
    have h0 := h 0 (by omega)
    have h1 := h 1 (by omega)
    rw [e0] at h0
    rw [e1] at h1
    exact ⟨h0, h1⟩
  · rintro ⟨h0, h1⟩ i hi
    have hc : i = 0 ∨ i = 1 := by omega
    rcases hc with rfl | rfl
    · rw [e0]; exact h0
    · rw [e1]; exact h1
theorem num2 (s : ByteArray) (a : Nat) (hs : a + 2 ≤ s.size) : num (s.extract a (a + 2)) (s.extract a (a + 2)).size = n2 s a := by
  have hz : (s.extract a (a + 2)).size = 2 := by rw [ext_size]; omega
  rw [hz]
  have e0 := bt_ext s a (a + 2) 0 (by omega)
  have e1 := bt_ext s a (a + 2) 1 (by omega)
  simp only [num, n2, e0, e1]
  simp
theorem allD4 (s : ByteArray) (hs : 4 ≤ s.size) : AllD (s.extract 0 4) ↔ (dg s 0 ∧ dg s 1 ∧ dg s 2 ∧ dg s 3) := by
  unfold AllD
  have hz : (s.extract 0 4).size = 4 := by rw [ext_size]; omega
  rw [hz]
  have e0 := bt_ext s 0 4 0 (by omega)
  have e1 := bt_ext s 0 4 1 (by omega)
  have e2 := bt_ext s 0 4 2 (by omega)
  have e3 := bt_ext s 0 4 3 (by omega)
  simp only [Nat.zero_add] at e0 e1 e2 e3
  constructor
  · intro h
    have h0 := h 0 (by omega)
    have h1 := h 1 (by omega)
    have h2 := h 2 (by omega)
    have h3 := h 3 (by omega)
    rw [e0] at h0
    rw [e1] at h1
    rw [e2] at h2
    rw [e3] at h3
    exact ⟨h0, h1, h2, h3⟩
  · rintro ⟨h0, h1, h2, h3⟩ i hi
    have hc : i = 0 ∨ i = 1 ∨ i = 2 ∨ i = 3 := by omega
    rcases hc with rfl | rfl | rfl | rfl
    · rw [e0]; exact h0
    · rw [e1]; exact h1
    · rw [e2]; exact h2
    · rw [e3]; exact h3
theorem num4 (s : ByteArray) (hs : 4 ≤ s.size) : num (s.extract 0 4) (s.extract 0 4).size = n4 s 0 := by
  have hz : (s.extract 0 4).size = 4 := by rw [ext_size]; omega
  rw [hz]
  have e0 := bt_ext s 0 4 0 (by omega)
  have e1 := bt_ext s 0 4 1 (by omega)
  have e2 := bt_ext s 0 4 2 (by omega)
  have e3 := bt_ext s 0 4 3 (by omega)
  simp only [Nat.zero_add] at e0 e1 e2 e3
  simp only [num, n4, e0, e1, e2, e3]
  simp
theorem n2_in {s : ByteArray} {a : Nat} (h : dg s a ∧ dg s (a + 1)) : 0 ≤ n2 s a ∧ n2 s a ≤ 99 := by
  unfold n2
  unfold dg at h
  omega
theorem n4_in {s : ByteArray} (h : dg s 0 ∧ dg s 1 ∧ dg s 2 ∧ dg s 3) : 0 ≤ n4 s 0 ∧ n4 s 0 ≤ 9999 := by
  unfold n4
  unfold dg at h
  simp only [Nat.zero_add]
  omega
/-- The forms, as the program asks for them. -/
theorem formed_iff (s : ByteArray) (K : Nat) (hK : K = min s.size 19) : Formed s ↔ (Fits (s.extract 0 K) F19 ∧ (s.extract K s.size = ⟨#[90]⟩ ∨ Fits (s.extract K s.size) FP ∨ Fits (s.extract K s.size) FM)) := by
  by_cases hs : s.size < 19
  · have hk : K = s.size := by omega
    constructor
    · rintro ⟨_, h | h⟩ <;> omega
    · rintro ⟨⟨h, _⟩, _⟩
      rw [ext_size, f19_size] at h
      omega
  · have hk : K = 19 := by omega
    subst hk
    have hz : (s.extract 0 19).size = 19 := by rw [ext_size]; omega
    have b0 : ∀ i, i < 19 → bt (s.extract 0 19) i = bt s i := fun i hi => by rw [bt_ext s 0 19 i (by omega), Nat.zero_add]
    have hd : D19 (s.extract 0 19) ↔ D19 s := by
      unfold D19 dg
      rw [b0 0 (by omega), b0 1 (by omega), b0 2 (by omega), b0 3 (by omega), b0 4 (by omega), b0 5 (by omega), b0 6 (by omega), b0 7 (by omega), b0 8 (by omega), b0 9 (by omega), b0 10 (by omega), b0 11 (by omega), b0 12 (by omega), b0 13 (by omega), b0 14 (by omega), b0 15 (by omega), b0 16 (by omega), b0 17 (by omega), b0 18 (by omega)]
    have hez : (s.extract 19 s.size).size = s.size - 19 := by rw [ext_size]; omega
    have b1 : ∀ i, 19 + i < s.size → bt (s.extract 19 s.size) i = bt s (19 + i) := fun i hi => bt_ext s 19 s.size i hi
    have hZ : s.extract 19 s.size = ⟨#[90]⟩ ↔ (s.size = 20 ∧ bt s 19 = 90) := by
      constructor
      · intro h
        have h1 : (s.extract 19 s.size).size = 1 := by rw [h]; rfl
        have h2 : s.size = 20 := by omega
        have h3 := b1 0 (by omega)
        rw [h] at h3
        exact ⟨h2, h3.symm⟩
      · rintro ⟨h1, h2⟩
        have h3 := b1 0 (by omega)
        rw [Nat.add_zero, h2] at h3
        apply WideShapes.bytes_inj
        have hl : (s.extract 19 s.size).data.toList.length = 1 := by
          have : (s.extract 19 s.size).size = 1 := by omega
          rw [Array.length_toList]
          exact this
        match hm : (s.extract 19 s.size).data.toList, hl with
        | [c], _ =>
          unfold bt at h3
          rw [hm] at h3
          have h4 : (c.toNat : Int) = 90 := h3
          have : c.toNat = 90 := by omega
          have : c = 90 := UInt8.toNat_inj.1 this
          rw [this]
    have hS : ∀ c, ((s.extract 19 s.size).size = 6 ∧ DSh c (s.extract 19 s.size)) ↔ (s.size = 25 ∧ bt s 19 = c ∧ (dg s 20 ∧ dg s 21) ∧ bt s 22 = 58 ∧ (dg s 23 ∧ dg s 24)) := by
      intro c
      rw [hez]
      constructor
      · rintro ⟨h1, h2⟩
        unfold DSh dg at h2
        rw [b1 0 (by omega), b1 1 (by omega), b1 2 (by omega), b1 3 (by omega), b1 4 (by omega), b1 5 (by omega)] at h2
        exact ⟨by omega, h2⟩
      · rintro ⟨h1, h2⟩
        refine ⟨by omega, ?_⟩
        unfold DSh dg
        rw [b1 0 (by omega), b1 1 (by omega), b1 2 (by omega), b1 3 (by omega), b1 4 (by omega), b1 5 (by omega)]
        exact h2
    rw [fits19 _ hz, hd, fitsP, fitsM, hZ, hS 43, hS 45]
    unfold Formed E25
    constructor
    · rintro ⟨h1, h2 | ⟨h2, h3 | h3, h4⟩⟩
      · exact ⟨h1, .inl h2⟩
      · exact ⟨h1, .inr (.inl ⟨h2, h3, h4⟩)⟩
      · exact ⟨h1, .inr (.inr ⟨h2, h3, h4⟩)⟩
    · rintro ⟨h1, h2 | ⟨h2, h3, h4⟩ | ⟨h2, h3, h4⟩⟩
      · exact ⟨h1, .inl h2⟩
      · exact ⟨h1, .inr ⟨h2, .inl h3, h4⟩⟩
      · exact ⟨h1, .inr ⟨h2, .inr h3, h4⟩⟩
end Go.Abs.S
