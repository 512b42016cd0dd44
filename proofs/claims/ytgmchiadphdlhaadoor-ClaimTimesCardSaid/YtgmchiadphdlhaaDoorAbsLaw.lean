/- From a law's call, looked at, to what its row asks; arrays as arguments. -/
import Derived.Test.YtgmchiadphdlhaaDoorAbsKit
import Derived.OpenShut
import Derived.ProofKit
import Derived.WalkKit
namespace Go.Abs
set_option linter.unusedVariables false
set_option linter.unusedSimpArgs false
variable {P : Program} {G : Glob}
/-- All that there is at a law's begin may only be read. -/
def lawSig (W : World) : Sig := ⟨fun _ _ => none, fun B => B < W.heap.size⟩
theorem ACall.law {n : FuncId} {args : List AV} {us : Array Value} {W : World} {b : Bool} (h : ACall P G true n args [] (.v (.bool b)) []) (hu : us.size = args.length) (ha : ∀ j, j < args.length → AR (lawSig W) W (args.getD j .any) (us.getD j undef)) (hg : ∀ g, AR (lawSig W) W (G g) (.pointer (some ⟨g, 0, none⟩))) :
    Calls P n us W fun e W' => e = .returned (.bool b) ∧ RowKit.Below W.heap.size W W' := by
  have rel : Rel G (lawSig W) [] W := ⟨fun b k l h => (by simp at h), fun b1 b2 k1 k2 l1 l2 h => (by simp at h), fun b k l h => (by simp at h), fun B h => h, fun b ver l h => (by cases h), hg, fun b ver l h => (by cases h)⟩
  refine (h.2 (lawSig W) W us hu ha rel).mono fun e W' ⟨u, he, σ', a1, a2, a3, _⟩ => ?_
  cases a1
  exact ⟨he, a3.os, a3.tape, a3.output, a3.size, fun B hB => a3.frame B hB noImg⟩
variable {H : Type} {enc : TypeId × Value → H} {w : World} {spare : Nat → Bool} {held : Bool}
theorem int_read {fuel : Nat} {k : IntKind} {t : TypeId} {cs : List Value} {x : DataW H × List MemPlace} (ht : P.underlying t = some (.int k)) (h : DataW.trod enc P w 0 spare held fuel t cs = some x) : ∃ y, cs = [.int k y] ∧ (Lit.int k y).wf = true := by
  obtain ⟨n, rfl, _, hw⟩ := DataW.trod_int ht h
  exact ⟨n, rfl, hw⟩
/-- An array of numbers. -/
theorem array_arg {n : Nat} {k : IntKind} {t e : TypeId} {v : Value} {d : DataW H} {ps : List MemPlace} {base : Nat} (ht : P.underlying t = some (.array n e)) (he : P.underlying e = some (.int k)) (hce : P.cellsOf e = 1) (hct : P.cellsOf t = n) (hv : Value.okWide P w .any base t v) (h : DataW.Trod enc P w 0 spare held t v d ps) :
    ∃ l : List Int, v = .agg (l.map (Value.int k)).toArray ∧ l.length = n ∧ ∀ x ∈ l, (Lit.int k x).wf = true := by
  unfold Value.okWide at hv
  simp only [ht] at hv
  obtain ⟨cs, rfl, hsz, _⟩ := hv
  obtain ⟨fuel, h⟩ := h
  obtain ⟨xs, m, _, _, _, hxl, hel⟩ := DataW.trod_array ht h
  have key : ∀ i, i < n → ∃ y, cs[i]? = some (.int k y) ∧ (Lit.int k y).wf = true := by
    intro i hi
    have := hel i hi
    rw [List.getElem?_eq_getElem (by omega)] at this
    obtain ⟨y, hy, hw⟩ := int_read he this
    rw [hce, Nat.mul_one] at hy
    refine ⟨y, ?_, hw⟩
    have h1 := congrArg (fun l => l[0]?) hy
    simpa [Value.cells] using h1
  refine ⟨cs.toList.map fun v => match v with | .int _ y => y | _ => 0, ?_, by simp [hsz, hct], fun x hx => ?_⟩
  · congr 1
    apply Array.ext_getElem?
    intro i
    by_cases hi : i < n
    · obtain ⟨y, hy, _⟩ := key i hi
      simp [hy]
    · rw [Array.getElem?_eq_none (by omega), Array.getElem?_eq_none (by simp; omega)]
  · obtain ⟨v, hv, rfl⟩ := List.mem_map.1 hx
    obtain ⟨i, hi, rfl⟩ := List.mem_iff_getElem.1 hv
    have hi' : i < n := by simp at hi; omega
    obtain ⟨y, hy, hw⟩ := key i hi'
    have : cs.toList[i] = .int k y := by
      have := Array.getElem?_eq_some_iff.1 hy
      simpa using this.2
    rw [this]
    exact hw
theorem array_ar {σ : Sig} (k : IntKind) (l : List Int) : AR σ w (.agg (ints k l)) (.agg (l.map (Value.int k)).toArray) := by
  refine .agg _ (by simp [ints_length]) (fun j hj => ?_)
  rw [ints_length] at hj
  rw [ints_get hj]
  simp [List.getD_eq_getElem?_getD, hj]
  exact .v _
theorem u8_wf {l : List Int} (h : ∀ x ∈ l, (Lit.int .u8 x).wf = true) : ∀ x ∈ l, 0 ≤ x ∧ x ≤ 255 := by
  intro x hx
  have := h x hx
  simp [Lit.wf, IntKind.min, IntKind.max, IntKind.signed, IntKind.bits] at this
  omega
/-- What may be looked at in two ways. -/
def AvLe (x y : AV) : Prop := ∀ (σ : Sig) (w : World) (u : Value), AR σ w x u → AR σ w y u
theorem AvLe.refl (x : AV) : AvLe x x := fun _ _ _ h => h
theorem AvLe.nil : AvLe (.v (.slice none 0 0)) (.vsl 0 [] none) := fun σ w u h => by
  cases h
  exact .vsl0 _ _ (fun c hc => by cases hc)
theorem PCall.le {n : FuncId} {args args' : List AV} {r : AV} (h : PCall P G n args' r) (hl : args.length = args'.length) (hle : ∀ j, j < args.length → AvLe (args.getD j .any) (args'.getD j .any)) : PCall P G n args r :=
  fun H => ⟨(h H).1, fun σ w us h1 h2 rel => (h H).2 σ w us (h1.trans hl) (fun j hj => hle j (by omega) _ _ _ (h2 j (by omega))) rel⟩
end Go.Abs
