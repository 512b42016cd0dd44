/- Arguments that are structs. -/
import Derived.Test.YtkeacmonhjhgeaaDoorAbsRead
namespace Go.Abs
open Go.Deep
set_option linter.unusedVariables false
set_option linter.unusedSimpArgs false
variable {P : Program} {H : Type} {enc : TypeId × Value → H} {w : World} {spare : Nat → Bool} {held : Bool}
def Rd.unit : Rd Unit := ⟨0, fun _ => [], fun _ => True, fun _ _ => rfl, fun _ _ => True⟩
def Rd.pair {α β : Type} (r : Rd α) (q : Rd β) : Rd (α × β) := ⟨r.sz + q.sz, fun y => r.av y.1 ++ q.av y.2, fun y => r.wf y.1 ∧ q.wf y.2, fun y h => by rw [List.length_append, r.len _ h.1, q.len _ h.2], fun _ _ => True⟩
/-- Fields from a place on. -/
def Rd.FIs {α : Type} (r : Rd α) (enc : TypeId × Value → H) (P : Program) (w : World) (spare : Nat → Bool) (held : Bool) (fs : List Field) (o : Nat) : Prop :=
  ∀ (n : Nat) (cs : List Value) (xs : List (DataW H × List MemPlace)), xs.length = fs.length → (∀ (i : Nat) (f : Field), fs[i]? = some f → DataW.trod enc P w 0 spare held n f.type ((cs.drop f.offset).take (P.cellsOf f.type)) = xs[i]?) →
    ∃ y, r.wf y ∧ ∀ j, j < r.sz → AR (lawSig w) w ((r.av y).getD j .any) (cs.getD (o + j) undef)
theorem Rd.fields_nil (o : Nat) : Rd.unit.FIs enc P w spare held [] o := fun n cs xs _ _ => ⟨(), trivial, fun j hj => absurd hj (Nat.not_lt_zero _)⟩
theorem Rd.fields_cons {α β : Type} {r : Rd α} {q : Rd β} {f : Field} {fs : List Field} {o : Nat} (ho : f.offset = o) (hc : P.cellsOf f.type = r.sz) (hr : r.Is enc P w spare held f.type) (hq : q.FIs enc P w spare held fs (o + r.sz)) : (r.pair q).FIs enc P w spare held (f :: fs) o := by
  intro n cs xs hl h
  obtain ⟨x, xs, rfl⟩ : ∃ x ys, xs = x :: ys := by
    cases xs with
    | nil => simp at hl
    | cons x ys => exact ⟨x, ys, rfl⟩
  have h0 := h 0 f rfl
  obtain ⟨y, hw, hlen, ha, _⟩ := hr _ _ _ h0
  obtain ⟨z, hz, hb⟩ := hq n cs xs (by simpa using hl) (fun i g hg => by simpa using h (i + 1) g (by simpa using hg))
  refine ⟨(y, z), ⟨hw, hz⟩, fun j hj => ?_⟩
  show AR (lawSig w) w ((r.av y ++ q.av z).getD j .any) _
  have hy := r.len y hw
  by_cases hjr : j < r.sz
  · have := ha j hjr
    rw [hc, ho] at this
    rw [List.getD_eq_getElem?_getD, List.getElem?_append_left (by omega), ← List.getD_eq_getElem?_getD]
    rw [List.getD_eq_getElem?_getD (l := (cs.drop o).take r.sz), List.getElem?_take, if_pos hjr, List.getElem?_drop, ← List.getD_eq_getElem?_getD] at this
    exact this
  · have hj' : j - r.sz < q.sz := by have : j < r.sz + q.sz := hj; omega
    have := hb (j - r.sz) hj'
    rw [List.getD_eq_getElem?_getD, List.getElem?_append_right (by omega), hy, ← List.getD_eq_getElem?_getD]
    rw [show o + r.sz + (j - r.sz) = o + j from by omega] at this
    exact this
theorem Rd.struct_is {α : Type} {r : Rd α} {t : TypeId} {fs : Array Field} (ht : P.underlying t = some (.struct fs)) (hsz : P.cellsOf t = r.sz) (hd : ∀ (y : α) (d : DataW H), r.dat y d) (hf : r.FIs enc P w spare held fs.toList 0) : r.Is enc P w spare held t := by
  intro fuel cs x h
  obtain ⟨xs, n, _, _, hcl, hxl, hx⟩ := DataW.trod_struct ht h
  obtain ⟨y, hw, ha⟩ := hf n cs xs (by simpa using hxl) (fun i f hi => hx i f (by simpa using hi))
  refine ⟨y, hw, by rw [hcl, hsz], fun j hj => ?_, hd _ _⟩
  have := ha j hj
  rwa [Nat.zero_add] at this
theorem okWide_struct {fs : Array Field} {t : TypeId} {v : Value} {base : Nat} {r : Reach} (ht : P.underlying t = some (.struct fs)) (hv : Value.okWide P w r base t v) : ∃ us, v = .agg us := by
  unfold Value.okWide at hv
  simp only [ht] at hv
  obtain ⟨cs, rfl, _⟩ := hv
  exact ⟨cs, rfl⟩
end Go.Abs
