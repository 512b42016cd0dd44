/- coin.Text answers base 64 of its bytes. Conditions: the bytes lie from 0 to 255, fewer than 2^40 of them and of the signs, and coin.base holds what the program lays in it. -/
import Derived.Test.YtldfdofeecmhoaaDoorGl
import Derived.Test.YtldfdofeecmhoaaDoorText
namespace Go.Proofs.YtldfdofeecmhoaaDoor.Ext
open Go.RowKit Go.Proofs.YtldfdofeecmhoaaDoorW.PrintWords Go.Proofs.YtldfdofeecmhoaaDoorW.PrintLast Go.Proofs.YtldfdofeecmhoaaDoorW.PrintMore
set_option linter.unusedVariables false
set_option linter.unusedSimpArgs false
def isBytes (l : List Int) : Bool := l.all fun x => decide (0 ≤ x) && decide (x ≤ 255)
theorem isBytes_rd {l : List Int} (h : isBytes l = true) (j : Int) : 0 ≤ rd l j ∧ rd l j ≤ 255 := by
  unfold rd
  rw [List.getD_eq_getElem?_getD]
  rcases hj : l[j.toNat]? with _ | x
  · simp
  · have := List.all_eq_true.1 h x (List.mem_of_getElem? hj)
    simp at this
    simpa using this
def text64 (l : List Int) : List UInt8 := encLoop signsB.data.toList 6 l 0 0
def coin_Text.f (l : List Int) : Option ByteArray := if isBytes l = true ∧ l.length ≤ 1099511627776 ∧ (text64 l).length ≤ 1099511627776 then some ⟨(text64 l).toArray⟩ else none
set_option maxHeartbeats 1000000 in
set_option maxRecDepth 100000 in
theorem coin_Text.calls (A0 : Option Addr) (c0 : Nat) (l0 : List Int) (r : ByteArray) (w : World) (hG : GL w) (hr0 : Kd.C (Kd.int .u8) w A0 l0.length l0) (hc0 : l0.length ≤ c0) (h : coin_Text.f l0 = some r) :
    Calls Tryd.prog 11 #[.slice A0 l0.length c0] w fun e w' => e = .returned (.string r) ∧ Below w.heap.size w w' := by
  unfold coin_Text.f at h
  split at h
  case isFalse => cases h
  case isTrue hc =>
    obtain ⟨h1, h2, h3⟩ := hc
    have HE := Aside0.mk (Option.some.inj h)
    have hb0 := hG.base0
    have hb1 := hG.base1
    clear h hG
    have H1 := Aside0.mk h1
    clear h1
    go_enter Tryd.func11, Tryd.ntmps11
    go_wp2_with fail
    refine (text_calls signsB 6 (by decide) (by decide) (by decide) A0 c0 l0 _ hr0 hc0 (isBytes_rd H1.out) (text64 l0) rfl h3 h2).mono ?_
    rintro e w1 ⟨rfl, hB⟩
    go_wp2_with fail
    go_ret
    exact ⟨by rw [← HE.out]; rfl, hB⟩
end Go.Proofs.YtldfdofeecmhoaaDoor.Ext
