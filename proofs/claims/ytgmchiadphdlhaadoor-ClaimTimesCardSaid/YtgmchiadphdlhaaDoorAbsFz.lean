/- Blocks that are written no more are looked at by what they hold. -/
import Derived.Test.YtgmchiadphdlhaaDoorAbsFrame
namespace Go.Abs
set_option linter.unusedVariables false
set_option linter.unusedSimpArgs false
variable {P : Program} {G : Glob} {σ : Sig} {H : AHeap} {w : World}
/-- A value, when a block is written no more. -/
def fzS (b : Nat) (k : Blk) : AV → AV
  | .ptr b' ver off => if b' = b ∧ ver = k.ver then .vptr k.cells off else .ptr b' ver off
  | .sl b' ver off len cap sz x => if b' = b ∧ ver = k.ver ∧ len ≤ cap ∧ off + len * sz ≤ k.cells.length then .vsl len ((k.cells.drop off).take (len * sz)) (if x then some cap else none) else .sl b' ver off len cap sz x
  | x => x
/-- The same, of what lies in a row too. -/
def fzV (b : Nat) (k : Blk) : AV → AV
  | .vsl len cs cx => .vsl len (cs.map (fzS b k)) cx
  | .agg cs => .agg (cs.map (fzS b k))
  | x => fzS b k x
def afz : List Nat → List AV → AHeap → (List AV → AHeap → Prop) → Prop
  | [], t, H, K => K t H
  | b :: bs, t, H, K => match H[b]? with
    | some k => k.live = true ∧ afz bs (t.map (fzV b k)) (H.set b { k with live := false }) K
    | none => False
theorem fzS_ok {σ' : Sig} {b : Nat} {k : Blk} {l : Loc} (hl : σ.ρ b k.ver = some l) (hro : σ'.ro l.B) (hm : ∀ x u, AR σ w x u → AR σ' w x u)
    (hc : ∀ o n, o + n ≤ k.cells.length → ∃ u : Nat → Value, (∀ j, j < n → w.cell? ⟨l.B, l.base + o + j, none⟩ = some (u j)) ∧ ∀ j, j < n → AR σ' w (k.cells.getD (o + j) .any) (u j)) (x : AV) (u : Value) (h : AR σ w x u) : AR σ' w (fzS b k x) u := by
  unfold fzS
  split
  · rename_i b' ver off
    by_cases e : b' = b ∧ ver = k.ver
    · rw [if_pos e]
      obtain ⟨rfl, rfl⟩ := e
      cases h with
      | ptr h =>
        rw [hl] at h
        cases h
        obtain ⟨v, c1, c2⟩ := hc 0 k.cells.length (by omega)
        exact .vptr l.B l.base v hro (fun j hj => by simpa using c1 j hj) (fun j hj => by simpa using c2 j hj)
    · rw [if_neg e]
      exact hm _ _ h
  · rename_i b' ver off len cap sz x
    by_cases e : b' = b ∧ ver = k.ver ∧ len ≤ cap ∧ off + len * sz ≤ k.cells.length
    · rw [if_pos e]
      obtain ⟨rfl, rfl, e1, e2⟩ := e
      cases h with
      | @sl _ _ _ _ _ cap' _ _ l' h h1 h2 h3 =>
        rw [hl] at h
        cases h
        obtain ⟨v, c1, c2⟩ := hc off (len * sz) e2
        have hlen : ((k.cells.drop off).take (len * sz)).length = len * sz := by rw [List.length_take, List.length_drop]; omega
        refine .vsl l.B (l.base + off) cap' v hro (fun j hj => c1 j (by omega)) (fun j hj => ?_) (Nat.le_trans e1 h1) (fun c hc => ?_)
        · rw [List.getD_eq_getElem?_getD, List.getElem?_take, if_pos (by omega), List.getElem?_drop, ← List.getD_eq_getElem?_getD]
          exact c2 j (by omega)
        · split at hc
          · rename_i hx
            cases hc
            exact h2 hx
          · cases hc
      | sl0 A =>
        rw [Nat.zero_mul, List.take_zero]
        exact .vsl0 _ _ (fun c hc => by split at hc <;> cases hc; rfl)
    · rw [if_neg e]
      exact hm _ _ h
  · exact hm _ _ h
/-- A block without a place: none points into it but with nothing. -/
theorem fzS_none {b : Nat} {k : Blk} (hl : σ.ρ b k.ver = none) (x : AV) (u : Value) (h : AR σ w x u) : AR σ w (fzS b k x) u := by
  unfold fzS
  split
  · rename_i b' ver off
    by_cases e : b' = b ∧ ver = k.ver
    · obtain ⟨rfl, rfl⟩ := e
      cases h with
      | ptr h =>
        rw [hl] at h
        cases h
    · rw [if_neg e]
      exact h
  · rename_i b' ver off len cap sz x
    by_cases e : b' = b ∧ ver = k.ver ∧ len ≤ cap ∧ off + len * sz ≤ k.cells.length
    · rw [if_pos e]
      obtain ⟨rfl, rfl, e1, e2⟩ := e
      cases h with
      | sl h h1 h2 h3 =>
        rw [hl] at h
        cases h
      | sl0 A =>
        rw [Nat.zero_mul, List.take_zero]
        exact .vsl0 _ _ (fun c hc => by split at hc <;> cases hc; rfl)
    · rw [if_neg e]
      exact h
  · exact h
theorem fz_map {σ' : Sig} {f : AV → AV} (hf : ∀ x u, AR σ w x u → AR σ' w (f x) u) {cs : List AV} {u : Nat → Value} (h : ∀ j, j < cs.length → AR σ w (cs.getD j .any) (u j)) : ∀ j, j < (cs.map f).length → AR σ' w ((cs.map f).getD j .any) (u j) := by
  intro j hj
  rw [List.length_map] at hj
  have := hf _ _ (h j hj)
  simpa [List.getD_eq_getElem?_getD, hj] using this
/-- By its parts. -/
theorem fzV_of {σ' : Sig} {b : Nat} {k : Blk} (hro : ∀ B, σ.ro B → σ'.ro B) (hf : ∀ x u, AR σ w x u → AR σ' w (fzS b k x) u) (x : AV) (u : Value) (h : AR σ w x u) : AR σ' w (fzV b k x) u := by
  unfold fzV
  split
  · rename_i len cs cx
    cases h with
    | vsl B o cap' u hr hm ha hl hx => exact .vsl B o cap' u (hro _ hr) (fun j hj => hm j (by simpa using hj)) (fz_map hf ha) hl hx
    | vsl0 A cap' hx => exact .vsl0 A cap' hx
  · rename_i cs
    cases h with
    | agg us hl ha => exact .agg us (by simpa using hl) (fz_map hf ha)
  · exact hf _ _ h
theorem fzV_ok {σ' : Sig} {b : Nat} {k : Blk} {l : Loc} (hl : σ.ρ b k.ver = some l) (hro : σ'.ro l.B) (hro2 : ∀ B, σ.ro B → σ'.ro B) (hm : ∀ x u, AR σ w x u → AR σ' w x u)
    (hc : ∀ o n, o + n ≤ k.cells.length → ∃ u : Nat → Value, (∀ j, j < n → w.cell? ⟨l.B, l.base + o + j, none⟩ = some (u j)) ∧ ∀ j, j < n → AR σ' w (k.cells.getD (o + j) .any) (u j)) (x : AV) (u : Value) (h : AR σ w x u) : AR σ' w (fzV b k x) u :=
  fzV_of hro2 (fzS_ok hl hro hm hc) x u h
theorem fzV_none {b : Nat} {k : Blk} (hl : σ.ρ b k.ver = none) (x : AV) (u : Value) (h : AR σ w x u) : AR σ w (fzV b k x) u := fzV_of (fun _ h => h) (fzS_none hl) x u h
theorem fz_get (b : Nat) (k : Blk) (t : List AV) {j : Nat} (hj : j < t.length) : (t.map (fzV b k)).getD j .any = fzV b k (t.getD j .any) := by
  simp [List.getD_eq_getElem?_getD, hj]
theorem afz_ok : ∀ {bs : List Nat} {t : List AV} {H : AHeap} {K : List AV → AHeap → Prop}, afz bs t H K → ∀ {σ : Sig} {a : Act} {w : World}, Sim G σ t H a w → ∃ t' H' σ', K t' H' ∧ Sim G σ' t' H' a w ∧ Ext σ H w σ' H' w
  | [], t, H, K, h, σ, a, w, s => ⟨t, H, σ, h, s, Ext.refl _ _ _⟩
  | b :: bs, t, H, K, h, σ, a, w, s => by
    unfold afz at h
    cases hk : H[b]? with
    | none => simp [hk] at h
    | some k =>
      simp only [hk] at h
      obtain ⟨hlv, h⟩ := h
      cases hl : σ.ρ b k.ver with
      | none =>
        obtain ⟨r', x'⟩ := s.rel.kill hk
        obtain ⟨t', H', σ', c1, c2, c3⟩ := afz_ok h (σ := σ) (a := a) (w := w) ⟨s.defers, by simpa using s.size, fun j hj => by rw [fz_get b k t (by simpa using hj)]; exact fzV_none hl _ _ (s.tmps j (by simpa using hj)), r'⟩
        exact ⟨t', H', σ', c1, c2, x'.trans c3⟩
      | some l =>
        obtain ⟨r', x', hm, hc⟩ := s.rel.freeze hk hlv hl
        obtain ⟨t', H', σ', c1, c2, c3⟩ := afz_ok h (σ := ⟨σ.ρ, fun B => σ.ro B ∨ B = l.B⟩) (a := a) (w := w) ⟨s.defers, by simpa using s.size, fun j hj => by rw [fz_get b k t (by simpa using hj)]; exact fzV_ok hl (Or.inr rfl) (fun B h => Or.inl h) hm hc _ _ (s.tmps j (by simpa using hj)), r'⟩
        exact ⟨t', H', σ', c1, c2, x'.trans c3⟩
theorem afz_mono {K K' : List AV → AHeap → Prop} (h : ∀ t H, K t H → K' t H) : ∀ {bs : List Nat} {t : List AV} {H : AHeap}, afz bs t H K → afz bs t H K'
  | [], t, H, hk => h _ _ hk
  | b :: bs, t, H, hk => by
    unfold afz at hk ⊢
    cases hb : H[b]? with
    | none => simp [hb] at hk
    | some k =>
      simp only [hb] at hk ⊢
      exact ⟨hk.1, afz_mono h hk.2⟩
/-- A slice of nothing may be looked at as one that lies in a block of its own. -/
def agh : List (Nat × Nat × TypeId) → List AV → AHeap → (List AV → AHeap → Prop) → Prop
  | [], t, H, K => K t H
  | (i, sz, e) :: gs, t, H, K => (t.getD i .any = .v (.slice none 0 0) ∧ i < t.length) ∧ agh gs (t.set i (.sl H.length 0 0 0 0 sz false)) (H ++ [⟨[], 0, true, e⟩]) K
theorem agh_ok : ∀ {gs : List (Nat × Nat × TypeId)} {t : List AV} {H : AHeap} {K : List AV → AHeap → Prop}, agh gs t H K → ∀ {σ : Sig} {a : Act} {w : World}, Sim G σ t H a w → ∃ t' H', K t' H' ∧ Sim G σ t' H' a w ∧ Ext σ H w σ H' w
  | [], t, H, K, h, σ, a, w, s => ⟨t, H, h, s, Ext.refl _ _ _⟩
  | (i, sz, e) :: gs, t, H, K, h, σ, a, w, s => by
    obtain ⟨⟨h1, h2⟩, h⟩ := h
    obtain ⟨r', x'⟩ := s.rel.ghost ⟨[], 0, true, e⟩
    obtain ⟨t', H', c1, c2, c3⟩ := agh_ok h (σ := σ) (a := a) (w := w) ⟨s.defers, by simpa using s.size, fun j hj => by
      rw [List.length_set] at hj
      have hs := s.tmps j hj
      rw [List.getD_eq_getElem?_getD, List.getElem?_set]
      by_cases hij : i = j
      · subst hij
        rw [h1] at hs
        simp only [h2, if_true, Option.getD_some]
        generalize a.tmps.getD i undef = u at *
        cases hs
        exact .sl0 _
      · rw [if_neg hij, ← List.getD_eq_getElem?_getD]
        exact hs, r'⟩
    exact ⟨t', H', c1, c2, x'.trans c3⟩
theorem agh_mono {K K' : List AV → AHeap → Prop} (h : ∀ t H, K t H → K' t H) : ∀ {gs : List (Nat × Nat × TypeId)} {t : List AV} {H : AHeap}, agh gs t H K → agh gs t H K'
  | [], t, H, hk => h _ _ hk
  | (i, sz, e) :: gs, t, H, hk => ⟨hk.1, agh_mono h hk.2⟩
/-- A value without a pointer. -/
def Flat (x : AV) : Prop := ∀ (σ σ' : Sig) (w w' : World) (u : Value), AR σ w x u → AR σ' w' x u
theorem Flat.v (x : Value) : Flat (.v x) := fun _ _ _ _ _ h => by cases h; exact .v _
theorem Flat.agg {cs : List AV} (h : ∀ c ∈ cs, Flat c) : Flat (.agg cs) := fun σ σ' w w' u hu => by
  cases hu with
  | agg us hl ha => exact .agg us hl (fun j hj => h _ (by simp [List.getD_eq_getElem?_getD, hj]) _ _ _ _ _ (ha j hj))
theorem Flat.tup {cs : List AV} (h : ∀ c ∈ cs, Flat c) : Flat (.tup cs) := fun σ σ' w w' u hu => by
  cases hu with
  | tup us hl ha => exact .tup us hl (fun j hj => h _ (by simp [List.getD_eq_getElem?_getD, hj]) _ _ _ _ _ (ha j hj))
/-- A call that only reads may read what may be written later, if it hands out no pointer. -/
theorem PCall.live {n : FuncId} {args : List AV} {r : AV} (bs : List Nat) (h : afz bs args H fun args' _ => PCall P G n args' r) (fl : Flat r) : ACall P G true n args H r H := by
  have hcall : Callable P n := by
    have key : ∀ {bs : List Nat} {t : List AV} {H : AHeap}, afz bs t H (fun args' _ => PCall P G n args' r) → Callable P n := by
      intro bs
      induction bs with
      | nil => exact fun h => (h []).1
      | cons b bs ih =>
        intro t H h
        unfold afz at h
        cases hk : H[b]? with
        | none => simp [hk] at h
        | some k =>
          simp only [hk] at h
          exact ih h.2
    exact key h
  refine ⟨hcall, fun σ w us hu ha rel => ?_⟩
  obtain ⟨t', H', σ', hp, s, x⟩ := afz_ok h (σ := σ) (a := { tmps := us, defers := [] }) (w := w) ⟨rfl, hu, ha, rel⟩
  refine ((hp H').2 σ' w us s.size s.tmps s.rel).mono fun e w' ⟨u, he, σ1, a1, a2, a3, a4⟩ => ⟨u, he, ?_⟩
  have hal := (a4 rfl).heap
  have hro : ∀ B, σ.ro B → w'.heap[B]? = w.heap[B]? := fun B hB => s.rel.roKept a3 B (x.ro B hB)
  have hm : ∀ x v, AR σ w x v → AR σ w' x v := fun x v h => AR.mono (σ := σ) (σ' := σ) (fun _ _ _ h => h) (fun _ h => h) hro h
  refine ⟨σ, fl _ _ _ _ _ a1, ⟨fun b k l g1 g2 g3 => ?_, rel.inj, rel.apart, fun B hB => Nat.lt_of_lt_of_le (rel.roLt B hB) a3.size, rel.fresh, fun g => hm _ _ (rel.glob g), rel.base0⟩,
    ⟨a3.os, a3.tape, a3.output, a3.size, fun _ _ _ h => h, fun _ h => h, fun B hB hn => a3.frame B hB fun hi => (x.img hi).elim (fun h => by omega) hn, fun _ _ _ h => .inl h, fun b k' l g1 g2 _ => ⟨k', g1, g2, rfl⟩, fun B h => .inl h, Nat.le_refl _⟩, fun _ => ⟨hal, fun _ _ _ h => .inl h⟩⟩
  obtain ⟨C, fr, c1, c2, c3, c4, c5⟩ := rel.blk b k l g1 g2 g3
  obtain ⟨fr', c1', c4'⟩ : ∃ fr', w'.heap[l.B]? = some (.cells C k.elem fr') ∧ (l.lim ≤ fr'.1 ∨ fr'.1 = fr'.2) := by
    have hal := hal _ (Array.getElem?_eq_some_iff.1 c1).1
    rw [c1] at hal
    generalize hw' : w'.heap[l.B]? = ob at hal
    cases hal with
    | same h => exact ⟨fr, h, c4⟩
    | marked fr fr' h => exact ⟨fr', rfl, by rw [← c2] at c4 ⊢; exact h c4⟩
  refine ⟨C, fr', c1', c2, c3, c4', fun j hj => ?_⟩
  obtain ⟨v, e1, e2⟩ := c5 j hj
  exact ⟨v, e1, hm _ _ e2⟩
end Go.Abs
