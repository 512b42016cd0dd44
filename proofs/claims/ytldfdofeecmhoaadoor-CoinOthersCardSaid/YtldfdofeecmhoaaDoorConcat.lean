/- slices.Concat at rows of bytes: the rows one behind the other, in new memory. Condition: they have at most 2^46 bytes together. -/
import Derived.Test.YtldfdofeecmhoaaDoorWWords
import Derived.Test.YtldfdofeecmhoaaDoorWLast
import Derived.Test.YtldfdofeecmhoaaDoorWMore
import Derived.Test.YtldfdofeecmhoaaDoorWZeros
import Derived.WalkLawsBesides
import Derived.Lib.Hide
import Derived.Deep.LoopGhost
import Derived.Test.YtldfdofeecmhoaaDoorProg
namespace Go.Proofs.YtldfdofeecmhoaaDoor.Ext
open Go.RowKit Go.Proofs.YtldfdofeecmhoaaDoorW.PrintWords Go.Proofs.YtldfdofeecmhoaaDoorW.PrintLast Go.Proofs.YtldfdofeecmhoaaDoorW.PrintMore
set_option linter.unusedVariables false
set_option linter.unusedSimpArgs false
theorem infoU8 : (Tryd.prog.info? 5).map (fun i => (i.zero, i.size, i.bytes)) = some (some (.int .u8 0), 1, 1) := by kernel_rfl
set_option maxHeartbeats 1000000 in
set_option maxRecDepth 100000 in
theorem grow_calls (a1 : Int) (w : World) (h0 : 0 ≤ a1) (h1 : a1 ≤ 70368744177664) :
    Calls Tryd.prog 31 #[.slice none 0 0, .int .i64 a1] w fun e w' => ∃ v, e = .returned v ∧ Kd.R (Kd.int .u8) 5 w' w.heap.size (fun _ => True) v ([] : List Int) ∧ Below w.heap.size w w' := by
  by_cases hp : 0 < a1
  · go_enter Tryd.func31, Tryd.ntmps31
    go_wp2_with (at_builtin; refine Kd.R_append_zeros (Kd.int .u8) (w0 := w) w.heap.size rfl (.tmp 20) (.tmp 21) 22 3 5 (.int .u8 0) 1 rfl Tryd.underlying22 Tryd.underlying3 infoU8 rfl (by decide) (by omega) (.slice none 0 0) ([] : List Int) 0 a1 (fun _ => True) rfl rfl rfl (fun _ _ => trivial) (Kd.R_nil _ _ _ _ _) h0 (Below.refl _ _) (Nat.le_refl _) (by simp; omega) ?_)
    intro v1 w1 hR hB hg hat
    obtain ⟨A, c, rfl⟩ := Kd.R_slice hR
    have hR0 := Kd.R_take (m := 0) hR (Nat.zero_le _)
    have HR0 := Aside0.mk hR0
    clear hR hR0 hg hat
    have HB := Aside0.mk hB
    clear hB
    go_wp2_with fail
    go_ret
    exact ⟨_, rfl, HR0.out, HB.out⟩
  · obtain rfl : a1 = 0 := by omega
    go_enter Tryd.func31, Tryd.ntmps31
    go_wp2_with fail
    go_ret
    exact ⟨_, rfl, Kd.R_nil _ _ _ _ _, Below.refl _ _⟩
/-- How many there are in the first rows. -/
def flatN {α : Type} (l : List (List α)) (k : Nat) : Nat := (l.take k).flatten.length
theorem flat_step {α : Type} (l : List (List α)) (k : Nat) (h : k < l.length) : (l.take (k + 1)).flatten = (l.take k).flatten ++ l[k] := by
  rw [List.take_succ_eq_append_getElem h, List.flatten_append]
  simp
theorem flatN_step {α : Type} (l : List (List α)) (k : Nat) (h : k < l.length) : flatN l (k + 1) = flatN l k + l[k].length := by
  unfold flatN
  rw [flat_step l k h, List.length_append]
theorem flatN_le {α : Type} (l : List (List α)) (k : Nat) : flatN l k ≤ l.flatten.length := by
  unfold flatN
  conv => rhs; rw [← List.take_append_drop k l, List.flatten_append, List.length_append]
  omega
/-- An element of a row of rows of bytes. -/
theorem row_at {w : World} {A : Option Addr} {l : List (List Int)} (h : Kd.C (Kd.slice 5 (Kd.int .u8)) w A l.length l) (k : Nat) (hk : k < l.length) :
    ∃ ad A' c', A = some ad ∧ w.cell? (ad.add k) = some (.slice A' l[k].length c') ∧ l[k].length ≤ c' ∧ Kd.C (Kd.int .u8) w A' l[k].length l[k] := by
  obtain ⟨ad, c, e, _, hK, hc⟩ := Kd.C_get h [] (k : Int) (by omega) (by omega)
  rw [Int.toNat_natCast, List.getD_eq_getElem?_getD, List.getElem?_eq_getElem hk] at hK
  obtain ⟨A', c', rfl, h1, h2⟩ := hK
  refine ⟨ad, A', c', e, ?_, h1, h2⟩
  have := hc 0 _ rfl
  simpa [Kd.slice] using this
set_option maxHeartbeats 1000000 in
set_option maxRecDepth 100000 in
theorem concat_calls (A0 : Option Addr) (c0 : Nat) (l0 : List (List Int)) (w : World) (hr0 : Kd.C (Kd.slice 5 (Kd.int .u8)) w A0 l0.length l0) (T : List Int) (hT : l0.flatten = T) (hl : T.length ≤ 70368744177664) :
    Calls Tryd.prog 23 #[.slice A0 l0.length c0] w fun e w' => ∃ v, e = .returned v ∧ Kd.R (Kd.int .u8) 5 w' w.heap.size (fun _ => True) v T ∧ Below w.heap.size w w' := by
  have HR := Aside0.mk hr0
  have hln : l0.length ≤ 9223372036854775807 := hr0.2.1
  have HT := Lib.hid hT
  have HN := Lib.hid (fun k => hT ▸ flatN_le l0 k : ∀ k, flatN l0 k ≤ T.length)
  clear hr0 hT
  go_enter Tryd.func23, Tryd.ntmps23
  go_wp2_with fail
  go_loopg [3, 11] l0.length (fun kq s i wr => ∃ (k : Nat), kq + k = l0.length ∧ i = .int .i64 k ∧ s = .int .i64 (flatN l0 k) ∧ w = wr)
  case atStart => exact ⟨0, rfl, rfl, rfl, rfl⟩
  case round =>
    obtain ⟨k, hkq, rfl, rfl, rfl⟩ := hrel
    have HKQ := Lib.hid hkq
    have hk : k ≤ l0.length := by omega
    clear hkq
    by_cases hlt : k < l0.length
    · obtain ⟨ad, A', c', e, hx, hlc, hC⟩ := row_at HR.out k hlt
      cases e
      have hs1 := HN.out k
      have hs2 := HN.out (k + 1)
      have hstep := flatN_step l0 k hlt
      rw [hstep] at hs2
      have HS := Lib.hid hstep
      clear hstep
      generalize hL : l0[k] = L at *
      have HL := Lib.hid hL
      clear hL
      go_wp2_with fail
      go_roundg (l0.length - (k + 1))
      case measure => have := HKQ.out; omega
      case rel =>
        refine ⟨k + 1, by omega, by go_num, ?_, rfl⟩
        rw [HS.out]
        go_num
    · obtain rfl : k = l0.length := by omega
      have hs1 := HN.out l0.length
      go_wp2_with fail
      refine (grow_calls (flatN l0 l0.length) w (by omega) (by omega)).mono ?_
      rintro e w1 ⟨v1, rfl, hR1, hB1⟩
      have HR1 := Aside0.mk hR1
      have HB1 := Aside0.mk hB1
      clear hR1 hB1
      go_wp2_with fail
      go_loopg [6, 27] l0.length (fun kq v i wq => ∃ (k : Nat), kq + k = l0.length ∧ i = .int .i64 k ∧ Aside0 (Kd.R (Kd.int .u8) 5 wq w.heap.size (fun _ => True) v (l0.take k).flatten) ∧ Aside0 (Below w.heap.size w wq))
      case atStart => exact ⟨0, rfl, rfl, HR1, HB1⟩
      case round =>
        obtain ⟨k, hkq, rfl, HRk, HBk⟩ := hrel
        have HKQ2 := Lib.hid hkq
        have hk2 : k ≤ l0.length := by omega
        clear hkq
        by_cases hlt2 : k < l0.length
        · obtain ⟨ad, A', c', e, hx, hlc, hC⟩ := row_at (Kd.C_below HR.out HBk.out) k hlt2
          cases e
          have HC := Aside0.mk hC
          have hs2 := HN.out (k + 1)
          rw [flatN_step l0 k hlt2] at hs2
          have HF := Lib.hid (flat_step l0 k hlt2)
          generalize hL : l0[k] = L at *
          have HL := Lib.hid hL
          clear hL hC
          obtain ⟨Av, cv, rfl⟩ := Kd.R_slice HRk.out
          have hfl : (l0.take k).flatten.length = flatN l0 k := rfl
          have HFL := Lib.hid hfl
          generalize hX : (l0.take k).flatten = X at *
          have HX := Lib.hid hX
          clear hX hfl
          go_wp2_with (at_builtin; refine Kd.R_append_row (Value.int .u8) (0 : Int) (h1 := fun _ => rfl) (w0 := w) w.heap.size rfl (.tmp 31) (.tmp 32) 22 5 (.int .u8 0) 1 rfl Tryd.underlying22 infoU8 rfl (by decide) _ X L A' L.length c' (fun _ => True) rfl rfl (fun _ _ => trivial) HRk.out HC.out HBk.out HBk.out.size (by have := HFL.out; omega) ?_)
          intro v2 w2 hR2 hB2 hg hat
          have HR2 := Aside0.mk hR2
          have HB2 := Aside0.mk hB2
          clear hR2 hB2 hg hat HRk HBk
          go_wp2_with fail
          go_roundg (l0.length - (k + 1))
          case measure => have := HKQ2.out; omega
          case rel =>
            exact ⟨k + 1, by omega, by go_num, ⟨by rw [HF.out]; exact HR2.out⟩, HB2⟩
        · obtain rfl : k = l0.length := by omega
          go_wp2_with fail
          go_ret
          refine ⟨_, rfl, ?_, HBk.out⟩
          have := HRk.out
          rw [List.take_length, HT.out] at this
          exact this
def slices_Concat.f (l : List (List Int)) : Option (List Int) := if l.flatten.length ≤ 70368744177664 then some l.flatten else none
theorem slices_Concat.calls (A0 : Option Addr) (c0 : Nat) (l0 : List (List Int)) (r : List Int) (w : World) (hr0 : Kd.C (Kd.slice 5 (Kd.int .u8)) w A0 l0.length l0) (hc0 : l0.length ≤ c0) (h : slices_Concat.f l0 = some r) :
    Calls Tryd.prog 23 #[.slice A0 l0.length c0] w fun e w' => ∃ v0_ : Value, e = .returned (v0_) ∧ Kd.R (Kd.int .u8) 5 w' w.heap.size (fun _ => True) v0_ r ∧ Below w.heap.size w w' := by
  unfold slices_Concat.f at h
  split at h
  case isFalse => cases h
  case isTrue hl => exact concat_calls A0 c0 l0 w hr0 r (Option.some.inj h) (by rw [← Option.some.inj h]; exact hl)
end Go.Proofs.YtldfdofeecmhoaaDoor.Ext
