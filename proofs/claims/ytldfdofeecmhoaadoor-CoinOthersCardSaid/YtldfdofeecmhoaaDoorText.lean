/- coin's alphabets: the text of bytes in an alphabet's signs is the plain function 'enc'. Conditions: the bytes lie from 0 to 255, fewer than 2^40 of them and of the signs; for Text and Hex the alphabet's variable holds what the program lays in it. -/
import Derived.Test.YtldfdofeecmhoaaDoorWWords
import Derived.Test.YtldfdofeecmhoaaDoorWLast
import Derived.Test.YtldfdofeecmhoaaDoorWMore
import Derived.Test.YtldfdofeecmhoaaDoorWApart
import Derived.Test.YtldfdofeecmhoaaDoorWAt
import Derived.Test.YtldfdofeecmhoaaDoorWGuard
import Derived.Test.YtldfdofeecmhoaaDoorShelf
import Derived.Test.YtldfdofeecmhoaaDoorBuilder
import Derived.StillTailTactics
import Derived.WalkLawsBesides
import Derived.Laws.BitsLemmas
import Derived.Lib.Hide
import Derived.Deep.LoopGhost
namespace Go.Proofs.YtldfdofeecmhoaaDoor.Ext
open Go.RowKit Go.Proofs.YtldfdofeecmhoaaDoorW.PrintWords Go.Proofs.YtldfdofeecmhoaaDoorW.PrintLast Go.Proofs.YtldfdofeecmhoaaDoorW.PrintMore
set_option linter.unusedVariables false
set_option linter.unusedSimpArgs false
def drain (sg : List UInt8) (b : Nat) (held n : Nat) : Nat × Nat × List UInt8 :=
  if h : b ≤ n ∧ 0 < b then let r := drain sg b (held % 2 ^ (n - b)) (n - b); (r.1, r.2.1, sg.getD (held / 2 ^ (n - b)) 0 :: r.2.2) else (held, n, [])
termination_by n
def encLoop (sg : List UInt8) (b : Nat) : List Int → Nat → Nat → List UInt8
  | [], held, n => if 0 < n then [sg.getD (held * 2 ^ (b - n)) 0] else []
  | x :: xs, held, n => (drain sg b (held * 256 + x.toNat) (n + 8)).2.2 ++ encLoop sg b xs (drain sg b (held * 256 + x.toNat) (n + 8)).1 (drain sg b (held * 256 + x.toNat) (n + 8)).2.1

theorem wraps62 (n : Int) (h₀ : 0 ≤ n) (h₁ : n < 2 ^ 62) : IntKind.i64.wrap n = n := by rw [IntKind.wrap_i64]; omega
theorem and_mask62 (h q : Nat) (hh : h ≤ 65535) (hq : q ≤ 62) : bits .and .i64 (h : Int) (2 ^ q - 1) = ((h % 2 ^ q : Nat) : Int) := by
  rw [bits_mask .i64 62 (by decide) wraps62 q hq (h : Int) (by omega) (by omega)]
  simp
theorem or_byte (h : Nat) (x : Int) (hh : (h : Int) ≤ 255) (h0 : 0 ≤ x) (h1 : x ≤ 255) : bits .or .i64 ((h : Int) * 256) x = (h : Int) * 256 + x := by
  rw [bits_join .i64 62 (by decide) wraps62 8 _ _ (by omega) (by omega) (by omega) h0 (by omega) (by omega)]
theorem byteCells_snoc (l : List UInt8) (c : UInt8) : Lib.byteCells (l ++ [c]) = Lib.byteCells l ++ [.int .u8 (c.toNat : Int)] := by
  simp [Lib.byteCells]
theorem drain_step (sg : List UInt8) (b h n : Nat) (hb : 0 < b) (hn : b ≤ n) : drain sg b h n = ((drain sg b (h % 2 ^ (n - b)) (n - b)).1, (drain sg b (h % 2 ^ (n - b)) (n - b)).2.1, sg.getD (h / 2 ^ (n - b)) 0 :: (drain sg b (h % 2 ^ (n - b)) (n - b)).2.2) := by
  conv => lhs; unfold drain
  rw [dif_pos ⟨hn, hb⟩]
theorem drain_stop (sg : List UInt8) (b h n : Nat) (hn : n < b) : drain sg b h n = (h, n, []) := by
  unfold drain
  rw [dif_neg (by omega)]

set_option maxHeartbeats 1000000 in
set_option maxRecDepth 100000 in
theorem text_calls (sg : ByteArray) (b : Nat) (hb : 1 ≤ b) (hb8 : b ≤ 8) (hsg : sg.size = 2 ^ b) (A0 : Option Addr) (c0 : Nat) (l0 : List Int) (w : World) (hr0 : Kd.C (Kd.int .u8) w A0 l0.length l0) (hc0 : l0.length ≤ c0)
    (hu : ∀ j, 0 ≤ rd l0 j ∧ rd l0 j ≤ 255) (T : List UInt8) (hT : encLoop sg.data.toList b l0 0 0 = T) (hl : T.length ≤ 1099511627776) (hln : l0.length ≤ 1099511627776) :
    Calls Tryd.prog 22 #[.agg #[.string sg, .int .i64 b], .slice A0 l0.length c0] w fun e w' => e = .returned (.string ⟨T.toArray⟩) ∧ Below w.heap.size w w' := by
  have HR := Aside0.mk hr0
  have HT := Aside0.mk hT
  have HU := Aside0.mk hu
  have HS := Aside0.mk hsg
  clear hr0 hT hu hsg
  go_enter Tryd.func22, Tryd.ntmps22
  go_wp2_with fail
  go_loopg [6, 7, 12] l0.length (fun kq h n i wr => ∃ (k hd nn : Nat) (acc : List UInt8), kq + k = l0.length ∧ i = .int .i64 k ∧ h = .int .i64 hd ∧ n = .int .i64 nn ∧ nn < b ∧ Aside0 (hd < 2 ^ nn) ∧ Aside0 (acc ++ encLoop sg.data.toList b (l0.drop k) hd nn = T) ∧
      Aside0 (Lib.IsBuilder 57 5 (w.heap.size + 1) (w.heap.size + 1) (Lib.byteCells acc) wr) ∧ wr.cell? ⟨w.heap.size, 0, none⟩ = some (.string sg) ∧ wr.cell? ⟨w.heap.size, 1, none⟩ = some (.int .i64 b) ∧ Aside0 (Below w.heap.size w wr) ∧ w.heap.size + 1 < wr.heap.size)
  case atStart =>
    refine ⟨0, 0, 0, [], rfl, rfl, rfl, rfl, by omega, ⟨by simp⟩, ⟨by simpa using HT.out⟩, ⟨?_⟩, ?_, ?_, ⟨?_⟩, ?_⟩
    · have := Lib.fresh_isBuilder 57 5 (w.alloc (Obj.cells #[Value.string sg, Value.int IntKind.i64 ↑b] 45))
      simpa [Lib.byteCells] using this
    · go_simp
    · go_simp
    · exact below_alloc (below_alloc (Below.refl _ _) _) _
    · simp
  case round =>
    obtain ⟨k, hd, nn, acc, hkq, rfl, rfl, rfl, hnn, HD, HA, HI, hcs, hcb, HB, hsz⟩ := hrel
    have HKQ := Lib.hid hkq
    have hk : k ≤ l0.length := by omega
    clear hkq
    by_cases hlt : k < l0.length
    · have p105 : 0 ≤ (k : Int) := by omega
      have q105 : (k : Int) < (l0.length : Int) := by omega
      obtain ⟨ad105, e105, hx105⟩ := Kd.at_int (Kd.C_below HR.out HB.out) k p105 q105
      cases e105
      rw [Int.toNat_natCast] at hx105
      obtain ⟨hx0, hx1⟩ := HU.out k
      generalize hX : rd l0 (k : Int) = x at hx105 hx0 hx1
      have HX := Aside0.mk hX
      clear hX
      have hd8 : (hd : Int) ≤ 255 := by
        have h1 := HD.out
        have : 2 ^ nn ≤ 2 ^ 7 := Nat.pow_le_pow_right (by decide) (by omega)
        omega
      go_wp2_with fail
      rw [or_byte hd x hd8 hx0 hx1]
      go_loopg [6, 7] (nn + 8) (fun jq h n wr2 => ∃ (h2 n2 : Nat) (acc2 : List UInt8), Aside0 (n2 = jq) ∧ h = .int .i64 h2 ∧ n = .int .i64 n2 ∧ n2 ≤ 15 ∧ h2 ≤ 65535 ∧ Aside0 (h2 < 2 ^ n2) ∧
          Aside0 (acc2 ++ ((drain sg.data.toList b h2 n2).2.2 ++ encLoop sg.data.toList b (l0.drop (k + 1)) (drain sg.data.toList b h2 n2).1 (drain sg.data.toList b h2 n2).2.1) = T) ∧
          Aside0 (Lib.IsBuilder 57 5 (w.heap.size + 1) (w.heap.size + 1) (Lib.byteCells acc2) wr2) ∧ wr2.cell? ⟨w.heap.size, 0, none⟩ = some (.string sg) ∧ wr2.cell? ⟨w.heap.size, 1, none⟩ = some (.int .i64 b) ∧ Aside0 (Below w.heap.size w wr2) ∧ w.heap.size + 1 < wr2.heap.size)
      case atStart =>
        refine ⟨hd * 256 + x.toNat, nn + 8, acc, ⟨rfl⟩, congrArg (Value.int .i64) (by omega), by go_num, by omega, by omega, ⟨?_⟩, ⟨?_⟩, HI, hcs, hcb, HB, hsz⟩
        · have h1 := HD.out
          rw [Nat.pow_add]
          have : x.toNat < 256 := by omega
          have : (hd + 1) * 256 ≤ 2 ^ nn * 256 := Nat.mul_le_mul_right _ h1
          omega
        · have h1 := HA.out
          rw [List.drop_eq_getElem_cons hlt] at h1
          have h2 : l0[k] = x := by
            rw [← HX.out]
            simp [rd, List.getD_eq_getElem?_getD, List.getElem?_eq_getElem hlt]
          rw [h2] at h1
          exact h1
      case round =>
        obtain ⟨h2, n2, acc2, HJ, rfl, rfl, hn2, hh2, HD2, HA2, HI2, hcs2, hcb2, HB2, hsz2⟩ := hrel
        by_cases hbn : b ≤ n2
        · have hQ : h2 / 2 ^ (n2 - b) < 2 ^ b := by
            rw [Nat.div_lt_iff_lt_mul (Nat.two_pow_pos _), ← Nat.pow_add]
            rw [show b + (n2 - b) = n2 from by omega]
            exact HD2.out
          have pe : 0 ≤ (h2 : Int) / 2 ^ (n2 - b) := by
            have : (h2 : Int) / 2 ^ (n2 - b) = ((h2 / 2 ^ (n2 - b) : Nat) : Int) := by simp
            exact this ▸ Int.natCast_nonneg _
          have qe : (h2 : Int) / 2 ^ (n2 - b) < (sg.size : Int) := by
            have : (h2 : Int) / 2 ^ (n2 - b) = ((h2 / 2 ^ (n2 - b) : Nat) : Int) := by simp
            rw [this, HS.out]; exact_mod_cast hQ
          have HQ := Aside0.mk hQ
          clear hQ
          have pw0 : 0 ≤ (2 : Int) ^ (n2 - b) := Int.le_of_lt (Int.pow_pos (by decide))
          have pw1 : (2 : Int) ^ (n2 - b) ≤ 32768 := by
            have : (2 : Nat) ^ (n2 - b) ≤ 2 ^ 15 := Nat.pow_le_pow_right (by decide) (by omega)
            exact_mod_cast this
          go_wp2_with fail
          go_still_tail 6, (by kernel_rfl)
          change wpList _ _ _ _ _ wr.drew
          have HI3 := Aside0.mk (show Lib.IsBuilder 57 5 (w.heap.size + 1) (w.heap.size + 1) (Lib.byteCells acc2) wr.drew from HI2.out)
          have hcs3 : wr.drew.cell? ⟨w.heap.size, 0, none⟩ = some (.string sg) := hcs2
          have hcb3 : wr.drew.cell? ⟨w.heap.size, 1, none⟩ = some (.int .i64 b) := hcb2
          have HB3 := Aside0.mk (show Below w.heap.size w wr.drew from below_drew HB2.out)
          have hsz3 : w.heap.size + 1 < wr.drew.heap.size := hsz2
          clear HI2 hcs2 hcb2 HB2 hsz2
          generalize wr.drew = wd at *
          go_wp2_with fail
          have ha2 : acc2.length ≤ T.length := by rw [← HA2.out]; simp
          refine (Bld.writeByte (w.heap.size + 1) (w.heap.size + 1) (Lib.byteCells acc2) _ wd HI3.out (by simp [Lib.byteCells]; omega) (by omega)).mono ?_
          rintro e w1 ⟨rfl, hI4, hb4⟩
          have HI4 := Aside0.mk hI4
          have hcs4 : w1.cell? ⟨w.heap.size, 0, none⟩ = some (.string sg) := (hb4.cell (p := ⟨w.heap.size, 0, none⟩) (by simp)).trans hcs3
          have hcb4 : w1.cell? ⟨w.heap.size, 1, none⟩ = some (.int .i64 b) := (hb4.cell (p := ⟨w.heap.size, 1, none⟩) (by simp)).trans hcb3
          have HB4 := Aside0.mk (show Below w.heap.size w w1 from HB3.out.trans (hb4.mono (by omega)))
          have hsz4 : w.heap.size + 1 < w1.heap.size := by have := hb4.size; have := hI4.lt; omega
          clear hb4 hI4 hcs3 hcb3 HB3 hsz3 HI3
          go_wp2_with fail
          go_roundg (n2 - b)
          case measure => have := HJ.out; omega
          case rel =>
            refine ⟨h2 % 2 ^ (n2 - b), n2 - b, acc2 ++ [sg[h2 / 2 ^ (n2 - b)]'(by rw [HS.out]; exact HQ.out)], ⟨rfl⟩, ?_, by go_num, by omega, ?_, ⟨Nat.mod_lt _ (Nat.two_pow_pos _)⟩, ⟨?_⟩, ⟨.inr ?_⟩, hcs4, hcb4, HB4, hsz4⟩
            · rw [← and_mask62 h2 (n2 - b) hh2 (by omega)]
            · exact Nat.le_trans (Nat.mod_le _ _) hh2
            · have h1 := HA2.out
              rw [drain_step _ b h2 n2 (by omega) hbn] at h1
              rw [← h1]
              have : sg.data.toList.getD (h2 / 2 ^ (n2 - b)) 0 = sg[h2 / 2 ^ (n2 - b)]'(by rw [HS.out]; exact HQ.out) := by
                have hq := HQ.out
                have hs := HS.out
                rw [List.getD_eq_getElem?_getD, List.getElem?_eq_getElem (by rw [Array.length_toList]; show _ < sg.size; omega)]
                rfl
              rw [this]
              simp
            · rw [byteCells_snoc]
              exact HI4.out
        · go_wp2_with fail
          go_roundg (l0.length - (k + 1))
          case measure => have := HKQ.out; omega
          case rel =>
            rw [drain_stop _ b h2 n2 (by omega)] at HA2
            exact ⟨k + 1, h2, n2, acc2, by omega, by go_num, rfl, rfl, by omega, HD2, ⟨by simpa using HA2.out⟩, HI2, hcs2, hcb2, HB2, hsz2⟩
    · obtain rfl : k = l0.length := by omega
      have ha2 : acc.length ≤ T.length := by rw [← HA.out]; simp
      by_cases hn0 : 0 < nn
      · have hQ : hd * 2 ^ (b - nn) < 2 ^ b := by
          have h1 := HD.out
          rw [show 2 ^ b = 2 ^ nn * 2 ^ (b - nn) from by rw [← Nat.pow_add]; congr 1; omega]
          exact Nat.mul_lt_mul_of_pos_right h1 (Nat.two_pow_pos _)
        have hd8 : (hd : Int) ≤ 255 := by
          have h1 := HD.out
          have : 2 ^ nn ≤ 2 ^ 8 := Nat.pow_le_pow_right (by decide) (by omega)
          omega
        have hc : (hd : Int) * 2 ^ (b - nn) = ((hd * 2 ^ (b - nn) : Nat) : Int) := by simp
        have pe : 0 ≤ (hd : Int) * 2 ^ (b - nn) := hc ▸ Int.natCast_nonneg _
        have qe : (hd : Int) * 2 ^ (b - nn) < (sg.size : Int) := by rw [hc, HS.out]; exact_mod_cast hQ
        have q2 : (hd : Int) * 2 ^ (b - nn) ≤ 256 := by
          have h1 := HS.out
          have : 2 ^ b ≤ 2 ^ 8 := Nat.pow_le_pow_right (by decide) hb8
          omega
        have HQ := Aside0.mk hQ
        clear hQ hc
        go_wp2_with fail
        have w1 : IntKind.i64.wrap ((b : Int) - nn) = (b : Int) - nn := IntWalk.i64_in _ (by omega)
        have w2 : 0 ≤ (b : Int) - nn := by omega
        have w3 : ((b : Int) - nn).toNat = b - nn := by omega
        have w4 : IntKind.i64.wrap ((hd : Int) * 2 ^ (b - nn)) = (hd : Int) * 2 ^ (b - nn) := IntWalk.i64_in _ (by omega)
        go_still_tail 9, (by kernel_rfl)
        change wpList _ _ _ _ _ wr.drew
        have HI3 := Aside0.mk (show Lib.IsBuilder 57 5 (w.heap.size + 1) (w.heap.size + 1) (Lib.byteCells acc) wr.drew from HI.out)
        have HB3 := Aside0.mk (show Below w.heap.size w wr.drew from below_drew HB.out)
        have hsz3 : w.heap.size + 1 < wr.drew.heap.size := hsz
        clear HI hcs hcb HB hsz
        generalize wr.drew = wd at *
        go_wp2_with fail
        refine (Bld.writeByte (w.heap.size + 1) (w.heap.size + 1) (Lib.byteCells acc) _ wd HI3.out (by simp [Lib.byteCells]; omega) (by omega)).mono ?_
        rintro e w1 ⟨rfl, hI4, hb4⟩
        have HB4 := Aside0.mk (show Below w.heap.size w w1 from HB3.out.trans (hb4.mono (by omega)))
        have hs4 := hb4.size
        go_wp2_with fail
        refine (Tryd.Builder_String_any (w.heap.size + 1) (w.heap.size + 1) (acc ++ [sg[hd * 2 ^ (b - nn)]'(by rw [HS.out]; exact HQ.out)]) w1 (.inr (by rw [byteCells_snoc]; exact hI4)) (by omega)).mono ?_
        rintro e w2 ⟨rfl, hb5⟩
        go_wp2_with fail
        go_ret
        refine ⟨?_, HB4.out.trans (hb5.mono (by omega))⟩
        have h1 := HA.out
        rw [List.drop_length, encLoop, if_pos hn0] at h1
        have : sg.data.toList.getD (hd * 2 ^ (b - nn)) 0 = sg[hd * 2 ^ (b - nn)]'(by rw [HS.out]; exact HQ.out) := by
          have hq := HQ.out
          have hs := HS.out
          rw [List.getD_eq_getElem?_getD, List.getElem?_eq_getElem (by rw [Array.length_toList]; show _ < sg.size; omega)]
          rfl
        rw [← h1, this]
        rfl
      · go_wp2_with fail
        refine (Tryd.Builder_String_any (w.heap.size + 1) (w.heap.size + 1) acc wr HI.out (by omega)).mono ?_
        rintro e w2 ⟨rfl, hb5⟩
        go_wp2_with fail
        go_ret
        refine ⟨?_, HB.out.trans (hb5.mono (by omega))⟩
        have h1 := HA.out
        rw [List.drop_length, encLoop, if_neg hn0, List.append_nil] at h1
        rw [← h1]
        rfl
end Go.Proofs.YtldfdofeecmhoaaDoor.Ext
