/- Small facts of the page chapter's laws. -/
import Derived.Test.YtdbpaahdonplbaaDoorJP5
import Derived.Test.YtdbpaahdonplbaaDoorJP4
namespace Go.Abs.S
open Go.Proofs
open Classical
set_option linter.unusedVariables false
set_option linter.unusedSimpArgs false
set_option maxRecDepth 100000
set_option maxHeartbeats 8000000
theorem avle_ag {xs ys : List AV} (h : AvLs xs ys) : AvLe (.agg xs) (.agg ys) := fun σ w u hu => by
  cases hu with
  | agg us hl ha => exact .agg us (hl.trans h.length) (fun j hj => h.get j (by have := h.length; omega) _ _ _ (ha j (by have := h.length; omega)))
theorem small_leaf (k : Int) (t : ByteArray) (h : t.size ≤ 9223372036854775807) : small (.mk k t [] []) := by
  rw [small, smallL_iff]
  exact ⟨⟨h, by decide, fun _ h => absurd h List.not_mem_nil, by decide⟩, fun _ h => absurd h List.not_mem_nil⟩
theorem eqV_self (v : Val) : eqV v v = true := by unfold eqV; exact decide_eq_true rfl
theorem sameZ_p : PCall Tryd.prog glob 11 [vA default, .agg [ivC 0, stA ⟨#[]⟩, nlA, nlA]] (.v (.bool true)) := by
  have hs : small default := small_leaf 0 ⟨#[]⟩ (by decide)
  have h := same_v default hs default hs
  rw [eqV_self] at h
  exact h.les ⟨AvLe.refl _, avle_ag ⟨AvLe.refl _, AvLe.refl _, AvLe.nil, AvLe.nil, trivial⟩, trivial⟩
theorem sameT_p (s : ByteArray) (h : s.size ≤ 9223372036854775807) : PCall Tryd.prog glob 11 [.agg [ivC 4, stA s, nlA, nlA], .agg [ivC 4, stA s, nlA, nlA]] (.v (.bool true)) := by
  have hs := small_leaf 4 s h
  have h := same_v _ hs _ hs
  rw [eqV_self] at h
  unfold vA at h
  rw [Val.cells] at h
  exact h.les ⟨avle_ag ⟨AvLe.refl _, AvLe.refl _, AvLe.nil, AvLe.nil, trivial⟩, avle_ag ⟨AvLe.refl _, AvLe.refl _, AvLe.nil, AvLe.nil, trivial⟩, trivial⟩
end Go.Abs.S
