/- Ranges over a function: what stays when other objects come up; a function's end behind one. -/
import Derived.Test.YtgmchiadphdlhaaDoorAbsKit
import Derived.RangeFuncNested
import Derived.RangeFuncBound
import Derived.RangeFuncCalls
import Derived.RangeFuncLeaves
import Derived.RangeFuncBox
namespace Go.Abs
open Go.RowKit
set_option linter.unusedVariables false
set_option linter.unusedSimpArgs false
variable {P : Program} {G : Glob} {σ : Sig} {H : AHeap} {w : World}
/-- The range over a function in a code. -/
def rfOf : Code → Option (Operand × Array Tmp × Code × Code)
  | .rangeFunc g ps a b => some (g, ps, a, b)
  | .seq x y => (rfOf x).orElse fun _ => rfOf y
  | .cond _ x y => (rfOf x).orElse fun _ => rfOf y
  | .block _ c => rfOf c
  | .loop c => rfOf c
  | _ => none
theorem AR.monoC {σ : Sig} {w w' : World} (hc : ∀ B o v, w.cell? ⟨B, o, none⟩ = some v → w'.cell? ⟨B, o, none⟩ = some v) {x : AV} {u : Value} (h : AR σ w x u) : AR σ w' x u := by
  induction h with
  | any u => exact .any u
  | v x => exact .v x
  | ptr h => exact .ptr h
  | sl h hc hx hl => exact .sl h hc hx hl
  | sl0 A => exact .sl0 A
  | vptr B o u hr hm _ ih => exact .vptr B o u hr (fun j hj => hc _ _ _ (hm j hj)) ih
  | vsl B o cap' u hr hm _ hl hx ih => exact .vsl B o cap' u hr (fun j hj => hc _ _ _ (hm j hj)) ih hl hx
  | vsl0 A cap' hx => exact .vsl0 A cap' hx
  | agg us hl _ ih => exact .agg us hl ih
  | tup us hl _ ih => exact .tup us hl ih
  | fn us hl _ ih => exact .fn us hl ih
  | ifc _ ih => exact .ifc ih
  | ub b => exact .ub b
  | bsl0 => exact .bsl0
  | bsl h h0 hc hl => exact .bsl h h0 hc hl
  | usd0 p => exact .usd0 p
  | usd h => exact .usd h
  | bad0 => exact .bad0
  | bad h => exact .bad h
/-- Another object than cells comes up, or is turned. -/
theorem Rel.grow (r : Rel G σ H w) {w' : World} {row : Option Nat} (hg : w.grownBy w' row) (hr : ∀ k, row = some k → ∃ o : Obj, w.heap[k]? = some o ∧ o.isCells = false) : Rel G σ H w' ∧ ∀ x u, AR σ w x u → AR σ w' x u := by
  have hcell : ∀ (B : Nat) (C : Array Value) (T : TypeId) (fr : Nat × Nat), w.heap[B]? = some (Obj.cells C T fr) → w'.heap[B]? = some (Obj.cells C T fr) := fun B C T fr h => by
    refine (hg.block B (Array.getElem?_eq_some_iff.1 h).1 fun e => ?_).trans h
    obtain ⟨o, h1, h2⟩ := hr B e.symm
    rw [h] at h1
    cases h1
    cases h2
  have hc : ∀ B o v, w.cell? ⟨B, o, Option.none⟩ = some v → w'.cell? ⟨B, o, Option.none⟩ = some v := fun B o v h => by
    have e : w'.heap[B]? = w.heap[B]? := by
      cases hB : w.heap[B]? with
      | none => simp [World.cell?, hB] at h
      | some ob =>
        cases ob with
        | cells C T fr => exact hcell B C T fr hB
        | _ => simp [World.cell?, hB] at h
    rw [World.cell?_of_block (a := ⟨B, o, Option.none⟩) e]
    exact h
  have hm : ∀ x u, AR σ w x u → AR σ w' x u := fun x u h => h.monoC hc
  refine ⟨⟨fun b k l h1 h2 h3 => ?_, r.inj, r.apart, fun B hB => Nat.lt_of_lt_of_le (r.roLt B hB) hg.size, r.fresh, fun g => hm _ _ (r.glob g), r.base0⟩, hm⟩
  obtain ⟨C, fr, c1, c2, c3, c4, c5⟩ := r.blk b k l h1 h2 h3
  refine ⟨C, fr, hcell _ _ _ _ c1, c2, c3, c4, fun j hj => ?_⟩
  obtain ⟨v, e1, e2⟩ := c5 j hj
  exact ⟨v, e1, hm _ _ e2⟩
theorem Ext.grow {σ0 : Sig} {H0 : AHeap} {w0 : World} (x : Ext σ0 H0 w0 σ H w) {w' : World} {row : Option Nat} (hg : w.grownBy w' row) (hr : ∀ k, row = some k → w0.heap.size ≤ k) : Ext σ0 H0 w0 σ H w' :=
  ⟨hg.os.trans x.os, hg.tape.trans x.tape, hg.output.trans x.output, Nat.le_trans x.size hg.size, x.ρ, x.ro, fun B hB hn => (hg.block B (Nat.lt_of_lt_of_le hB x.size) fun e => by have := hr B e.symm; omega).trans (x.frame B hB hn), x.new, x.stay, x.roNew, x.len⟩
/-- What is no cells, stays. -/
theorem Ext.keeps {σ0 : Sig} {H0 : AHeap} {w0 : World} (r : Rel G σ0 H0 w0) (x : Ext σ0 H0 w0 σ H w) : KeepsOthers w0 w := ⟨x.size, fun k o hk ho => by
  refine (x.frame k (Array.getElem?_eq_some_iff.1 hk).1 fun ⟨b, kb, l, h1, h2, h3, e⟩ => ?_).trans hk
  obtain ⟨C, fr, c1, _⟩ := r.blk b kb l h1 h2 h3
  rw [e, hk] at c1
  cases c1
  cases ho⟩
theorem wpList_ndef {ops : Array Oper} {Q : Exit → Act → World → Prop} (hq : ∀ a' w', Q .normal a' w' → a'.defers = []) : ∀ {l : List Oper} {a : Act} {w : World}, wpList P ops (nrm Q) l a w → a.defers = []
  | [], a, w, h => hq _ _ h.2
  | o :: rest, a, w, h => by
    have hput : ∀ v w', wpList P ops (nrm Q) rest (a.put o.dst v) w' → a.defers = [] := fun v w' h => (Act.put_def _ _ _).symm.trans (wpList_ndef hq h)
    unfold wpList at h
    split at h
    · rcases h with h | h
      · unfold Oper.wp at h
        generalize (execOp a.eval o).run P w = r at *
        match r, h with
        | .ok (.value v) w', h => exact hput v w' h
        | .ok .skip w', h => exact hput _ w' h
        | .ok (.defer d) w', h =>
          have := (Act.put_def _ _ _).symm.trans (wpList_ndef hq h)
          cases this
        | .ok (.enter f args) w', h =>
          obtain ⟨e, w'', _, hR, _⟩ := h []
          cases e with
          | returned v => exact hput v w'' hR
          | panicked c => cases hR.1
          | outgrown => exact absurd hR nrm_out
        | .ok (.row row args) w', h =>
          obtain ⟨v, w'', hR, _⟩ := h default []
          exact hput v w'' hR
        | .halt (.panic v) w', h => cases h.1
      · exact absurd h.2 nrm_out
    · exact hput _ w h
/-- Operations that defer nothing do not look at what is deferred. -/
theorem wpList_def {ops : Array Oper} {Q : Exit → Act → World → Prop} (ds : List Deferred) (hq : ∀ a' w', Q .normal a' w' → a'.defers = []) : ∀ {l : List Oper} {a : Act} {w : World}, wpList P ops (nrm Q) l a w →
    wpList P ops (nrm fun e a' w' => ∃ a0, Q e a0 w' ∧ a' = { a0 with defers := ds }) l { a with defers := ds } w
  | [], a, w, h => ⟨rfl, a, h.2, rfl⟩
  | o :: rest, a, w, h => by
    have next : ∀ v w', wpList P ops (nrm Q) rest (a.put o.dst v) w' → wpList P ops (nrm fun e a' w' => ∃ a0, Q e a0 w' ∧ a' = { a0 with defers := ds }) rest (({ a with defers := ds } : Act).put o.dst v) w' := fun v w' h => by
      have hput : ({ a with defers := ds } : Act).put o.dst v = { a.put o.dst v with defers := ds } := by cases o.dst <;> rfl
      rw [hput]
      exact wpList_def ds hq h
    unfold wpList at h ⊢
    have hy : yielded ops ({ a with defers := ds } : Act).tmps = yielded ops a.tmps := rfl
    rw [hy]
    split
    · rename_i hw
      rw [if_pos hw] at h
      rcases h with h | h
      · left
        unfold Oper.wp at h ⊢
        have he : ({ a with defers := ds } : Act).eval = a.eval := rfl
        rw [he]
        generalize (execOp a.eval o).run P w = r at *
        match r, h with
        | .ok (.value v) w', h => exact next _ _ h
        | .ok .skip w', h => exact next _ _ h
        | .ok (.defer d) w', h =>
          have := (Act.put_def _ _ _).symm.trans (wpList_ndef hq h)
          cases this
        | .ok (.enter f args) w', h =>
          refine Calls.mono h fun e w'' he => ?_
          cases e with
          | returned v => exact next _ _ he
          | panicked c => cases he.1
          | outgrown => exact absurd he nrm_out
        | .ok (.row row args) w', h => exact Rows.mono h fun v w'' he => next _ _ he
        | .halt (.panic v) w', h => cases h.1
      · exact absurd h.2 nrm_out
    · rename_i hw
      rw [if_neg hw] at h
      exact next _ _ h
end Go.Abs
