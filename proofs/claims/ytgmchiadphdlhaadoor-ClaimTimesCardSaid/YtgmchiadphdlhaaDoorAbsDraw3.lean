/- One operation more has come up; the rule. -/
import Derived.Test.YtgmchiadphdlhaaDoorAbsDraw2
namespace Go.Abs
set_option linter.unusedVariables false
set_option linter.unusedSimpArgs false
variable {P : Program} {G : Glob} {σ : Sig} {H : AHeap} {w : World}
section
variable {L : Nat → Bool} {ops : Array Oper} {m : Nat} {T : Nat → List AV} {Hh : Nat → AHeap} {V : Nat → AV} {σ0 : Sig} {w0 : World}
theorem set_get {l : Array Bool} {i : Nat} (hi : i < l.size) (j : Nat) : (l.setIfInBounds i true).getD j false = if i = j then true else l.getD j false := by
  simp only [Array.getD_eq_getD_getElem?, Array.getElem?_setIfInBounds]
  by_cases h : i = j
  · subst h
    simp [hi]
  · simp [h]
/-- What an operation left, together with what others did. -/
def mix (σ σ1 : Sig) (n : Nat) : Sig := ⟨fun b ver => if b < n then σ1.ρ b ver else σ.ρ b ver, fun B => σ1.ro B ∨ σ.ro B⟩
theorem DInv.step (ord : Ord ops m L) (hst : ∀ i, i < m → ∀ o, ops[i]? = some o → StepAt P G ops o (T i) (T (i + 1)) (Hh i) (Hh (i + 1)) (V i)) {listed : Array Bool} {a : Act} (d : DInv G L ops m T Hh V σ0 w0 σ listed a w)
    {i : Nat} {o : Oper} (hi : i < m) (ho : ops[i]? = some o) (hun : listed.getD i false = false) (hrd : ∀ e ∈ o.after, Region.binds .any e = true → listed.getD e.on false = true)
    {u : Value} {σ1 : Sig} {w' : World} (h1 : AR σ1 w' (V i) u) (h2 : Rel G σ1 (Hh (i + 1)) w') (h3 : Ext (rs σ (Hh i).length) (Hh i) w σ1 (Hh (i + 1)) w') (h4 : Quiet (rs σ (Hh i).length) (Hh i) w σ1 w') :
    DInv G L ops m T Hh V σ0 w0 (mix σ σ1 (Hh (i + 1)).length) (listed.setIfInBounds i true) (a.put o.dst u) w' := by
  have hlen : ∀ j k, j ≤ k → k ≤ m → (Hh j).length ≤ (Hh k).length := fun j k hj hk => by
    obtain ⟨N, hN⟩ := run_heap hst ord.le j k hj hk
    rw [hN]
    simp
  have hpre : ∀ j k b, j ≤ k → k ≤ m → b < (Hh j).length → (Hh k)[b]? = (Hh j)[b]? := fun j k b hj hk hb => by
    obtain ⟨N, hN⟩ := run_heap hst ord.le j k hj hk
    rw [hN, List.getElem?_append_left hb]
  have hil : i < listed.size := by
    rw [d.lsize]
    exact (Array.getElem?_eq_some_iff.1 ho).1
  have hkeys : ∀ b ver, (Hh i).length ≤ b → b < (Hh (i + 1)).length → σ.ρ b ver = none := d.keys i hi hun
  -- below the new places both say the same
  have hlow : ∀ b ver l, b < (Hh i).length → (σ1.ρ b ver = some l ↔ σ.ρ b ver = some l) := by
    intro b ver l hb
    constructor
    · intro h
      rcases h4.keys b ver l h with h | h
      · exact (rs_some h).2
      · omega
    · intro h
      exact h3.ρ b ver l (rs_of hb h)
  have hsub : ∀ b ver l, σ.ρ b ver = some l → (mix σ σ1 (Hh (i + 1)).length).ρ b ver = some l := by
    intro b ver l h
    show (if b < (Hh (i + 1)).length then σ1.ρ b ver else σ.ρ b ver) = some l
    by_cases hb : b < (Hh i).length
    · rw [if_pos (Nat.lt_of_lt_of_le hb (hlen i (i + 1) (by omega) (by omega)))]
      exact (hlow b ver l hb).2 h
    · by_cases hb2 : b < (Hh (i + 1)).length
      · rw [hkeys b ver (by omega) hb2] at h
        cases h
      · rw [if_neg hb2]
        exact h
  have hheap : ∀ B, σ.ro B → w'.heap[B]? = w.heap[B]? := fun B hB => (d.rel i (by omega)).roKept h3 B hB
  have hroLt : ∀ B, σ.ro B → B < w.heap.size := fun B hB => (d.rel i (by omega)).roLt B hB
  have mono : ∀ n x v, AR (rs σ n) w x v → AR (rs (mix σ σ1 (Hh (i + 1)).length) n) w' x v := fun n x v h =>
    AR.mono (σ := rs σ n) (σ' := rs (mix σ σ1 (Hh (i + 1)).length) n) (w := w) (w' := w') (fun b ver l hl => rs_of (rs_some hl).1 (hsub b ver l (rs_some hl).2)) (fun B hB => Or.inr hB) (fun B hB => hheap B hB) h
  have mono1 : ∀ n x v, (Hh (i + 1)).length ≤ n → AR σ1 w' x v → AR (rs (mix σ σ1 (Hh (i + 1)).length) n) w' x v := fun n x v hn h =>
    AR.mono (σ := σ1) (σ' := rs (mix σ σ1 (Hh (i + 1)).length) n) (w := w') (w' := w') (fun b ver l hl => by
      obtain ⟨k, hk, _⟩ := h2.fresh b ver l hl
      have hb := (List.getElem?_eq_some_iff.1 hk).1
      refine rs_of (by omega) ?_
      show (if b < (Hh (i + 1)).length then σ1.ρ b ver else σ.ρ b ver) = some l
      rw [if_pos hb]
      exact hl) (fun B hB => Or.inl hB) (fun _ _ => rfl) h
  -- a key of the mixture: an old one, or a new one
  have hcase : ∀ b ver l, (mix σ σ1 (Hh (i + 1)).length).ρ b ver = some l → σ.ρ b ver = some l ∨ ((Hh i).length ≤ b ∧ b < (Hh (i + 1)).length ∧ σ1.ρ b ver = some l) := by
    intro b ver l h
    replace h : (if b < (Hh (i + 1)).length then σ1.ρ b ver else σ.ρ b ver) = some l := h
    by_cases hb : b < (Hh i).length
    · rw [if_pos (Nat.lt_of_lt_of_le hb (hlen i (i + 1) (by omega) (by omega)))] at h
      exact .inl ((hlow b ver l hb).1 h)
    · by_cases hb2 : b < (Hh (i + 1)).length
      · rw [if_pos hb2] at h
        exact .inr ⟨by omega, hb2, h⟩
      · rw [if_neg hb2] at h
        exact .inl h
  have relm := d.rel m (Nat.le_refl _)
  -- a new block lies apart from every block there was
  have hnewB : ∀ b ver l, (Hh i).length ≤ b → b < (Hh (i + 1)).length → σ1.ρ b ver = some l → ∀ b2 k2 l2, (Hh m)[b2]? = some k2 → k2.live = true → b2 < (Hh m).length → (b2 < (Hh i).length ∨ (Hh (i + 1)).length ≤ b2) → σ.ρ b2 k2.ver = some l2 → l.B ≠ l2.B ∨ b2 < (Hh i).length := by
    intro b ver l hb1 hb2 hl b2 k2 l2 hk2 hlv2 hb2m hout hl2
    rcases hout with hout | hout
    · exact .inr hout
    · left
      intro e
      have hlt2 : l2.B < w.heap.size := relm.lt hk2 hlv2 (rs_of hb2m hl2)
      rcases h3.new b ver l hl with h | h | ⟨b0, k0, l0, g1, g2, g3, g4⟩
      · have := (rs_some h).1
        omega
      · omega
      · have hb0 := (rs_some g3).1
        have hk0 : (Hh m)[b0]? = some k0 := by rw [hpre i m b0 (by omega) (Nat.le_refl _) hb0]; exact g1
        have := relm.inj b0 b2 k0 k2 l0 l2 hk0 g2 (rs_of (Nat.lt_of_lt_of_le hb0 (hlen i m (by omega) (Nat.le_refl _))) (rs_some g3).2) hk2 hlv2 (rs_of hb2m hl2) (g4.trans e)
        omega
  have hgetM : ∀ k b kb, k ≤ m → (Hh k)[b]? = some kb → (Hh m)[b]? = some kb := fun k b kb hk h => by
    rw [hpre k m b hk (Nat.le_refl _) (List.getElem?_eq_some_iff.1 h).1]
    exact h
  have hget1 : ∀ k b kb, k ≤ m → (Hh k)[b]? = some kb → b < (Hh (i + 1)).length → (Hh (i + 1))[b]? = some kb := fun k b kb hk h hb => by
    have := hgetM k b kb hk h
    rw [hpre (i + 1) m b (by omega) (Nat.le_refl _) hb] at this
    exact this
  have hrel : ∀ k, k ≤ m → Rel G (rs (mix σ σ1 (Hh (i + 1)).length) (Hh k).length) (Hh k) w' := by
    intro k hk
    have relk := d.rel k hk
    refine ⟨?_, ?_, ?_, ?_, ?_, fun g => mono _ _ _ (relk.glob g), fun b ver l e3 => ?b0⟩
    case b0 =>
      obtain ⟨hbk, e3⟩ := rs_some e3
      rcases hcase b ver l e3 with e4 | ⟨e4, e5, e6⟩
      · exact relk.base0 b ver l (rs_of hbk e4)
      · exact h2.base0 b ver l e6
    · intro b kb l e1 e2 e3
      obtain ⟨hbk, e3⟩ := rs_some e3
      rcases hcase b kb.ver l e3 with e4 | ⟨e4, e5, e6⟩
      · obtain ⟨C, fr, c1, c2, c3, c4, c5⟩ := relk.blk b kb l e1 e2 (rs_of hbk e4)
        obtain ⟨fr', c1', c4'⟩ : ∃ fr', w'.heap[l.B]? = some (.cells C kb.elem fr') ∧ (l.lim ≤ fr'.1 ∨ fr'.1 = fr'.2) := by
          have hal := h4.heap _ (Array.getElem?_eq_some_iff.1 c1).1
          rw [c1] at hal
          generalize hw' : w'.heap[l.B]? = ob at hal
          cases hal with
          | same h => exact ⟨fr, h, c4⟩
          | marked fr fr' h => exact ⟨fr', rfl, by rw [← c2] at c4 ⊢; exact h c4⟩
        refine ⟨C, fr', c1', c2, c3, c4', fun j hj => ?_⟩
        obtain ⟨v, f1, f2⟩ := c5 j hj
        exact ⟨v, f1, mono _ _ _ f2⟩
      · obtain ⟨C, fr, c1, c2, c3, c4, c5⟩ := h2.blk b kb l (hget1 k b kb hk e1 e5) e2 e6
        refine ⟨C, fr, c1, c2, c3, c4, fun j hj => ?_⟩
        obtain ⟨v, f1, f2⟩ := c5 j hj
        have hki : i + 1 ≤ k := by
          rcases Nat.lt_or_ge k (i + 1) with h | h
          · have := hlen k i (by omega) (by omega)
            omega
          · exact h
        exact ⟨v, f1, mono1 _ _ _ (hlen (i + 1) k hki hk) f2⟩
    · intro b1 b2 k1 k2 l1 l2 e1 e2 e3 g1 g2 g3 e
      obtain ⟨hb1, e3⟩ := rs_some e3
      obtain ⟨hb2, g3⟩ := rs_some g3
      rcases hcase b1 k1.ver l1 e3 with e4 | ⟨e4, e5, e6⟩ <;> rcases hcase b2 k2.ver l2 g3 with g4 | ⟨g4, g5, g6⟩
      · exact relk.inj b1 b2 k1 k2 l1 l2 e1 e2 (rs_of hb1 e4) g1 g2 (rs_of hb2 g4) e
      · by_cases hlt : b1 < (Hh i).length
        · exact h2.inj b1 b2 k1 k2 l1 l2 (hget1 k b1 k1 hk e1 (by omega)) e2 ((hlow b1 _ l1 hlt).2 e4) (hget1 k b2 k2 hk g1 g5) g2 g6 e
        · have hge : (Hh (i + 1)).length ≤ b1 := by
            rcases Nat.lt_or_ge b1 (Hh (i + 1)).length with h | h
            · rw [hkeys b1 _ (by omega) h] at e4
              cases e4
            · exact h
          rcases hnewB b2 _ l2 g4 g5 g6 b1 k1 l1 (hgetM k b1 k1 hk e1) e2 (Nat.lt_of_lt_of_le hb1 (hlen k m hk (Nat.le_refl _))) (.inr hge) e4 with h | h
          · exact absurd e.symm h
          · omega
      · by_cases hlt : b2 < (Hh i).length
        · exact h2.inj b1 b2 k1 k2 l1 l2 (hget1 k b1 k1 hk e1 e5) e2 e6 (hget1 k b2 k2 hk g1 (by omega)) g2 ((hlow b2 _ l2 hlt).2 g4) e
        · have hge : (Hh (i + 1)).length ≤ b2 := by
            rcases Nat.lt_or_ge b2 (Hh (i + 1)).length with h | h
            · rw [hkeys b2 _ (by omega) h] at g4
              cases g4
            · exact h
          rcases hnewB b1 _ l1 e4 e5 e6 b2 k2 l2 (hgetM k b2 k2 hk g1) g2 (Nat.lt_of_lt_of_le hb2 (hlen k m hk (Nat.le_refl _))) (.inr hge) g4 with h | h
          · exact absurd e h
          · omega
      · exact h2.inj b1 b2 k1 k2 l1 l2 (hget1 k b1 k1 hk e1 e5) e2 e6 (hget1 k b2 k2 hk g1 g5) g2 g6 e
    · intro b kb l e1 e2 e3 hro
      obtain ⟨hbk, e3⟩ := rs_some e3
      rcases hcase b kb.ver l e3 with e4 | ⟨e4, e5, e6⟩
      · have hB : l.B < w.heap.size := relk.lt e1 e2 (rs_of hbk e4)
        rcases hro with hro | hro
        · rcases h3.roNew _ hro with h | h | ⟨b0, k0, l0, g1, g2, g3, g4⟩
          · exact relk.apart b kb l e1 e2 (rs_of hbk e4) h
          · omega
          · have hb0 := (rs_some g3).1
            have hbm : b < (Hh m).length := Nat.lt_of_lt_of_le hbk (hlen k m hk (Nat.le_refl _))
            have := relm.inj b0 b k0 kb l0 l (hgetM i b0 k0 (by omega) g1) g2 (rs_of (Nat.lt_of_lt_of_le hb0 (hlen i m (by omega) (Nat.le_refl _))) (rs_some g3).2) (hgetM k b kb hk e1) e2 (rs_of hbm e4) g4
            subst this
            exact h2.apart b0 kb l (hget1 k b0 kb hk e1 (Nat.lt_of_lt_of_le hb0 (hlen i (i + 1) (by omega) (by omega)))) e2 ((hlow b0 _ l hb0).2 e4) hro
        · exact relk.apart b kb l e1 e2 (rs_of hbk e4) hro
      · have hro1 : σ1.ro l.B := by
          rcases hro with hro | hro
          · exact hro
          · exact h3.ro _ hro
        exact h2.apart b kb l (hget1 k b kb hk e1 e5) e2 e6 hro1
    · intro B hB
      rcases hB with hB | hB
      · exact h2.roLt B hB
      · exact Nat.lt_of_lt_of_le (hroLt B hB) h3.size
    · intro b ver l h
      obtain ⟨hbk, h⟩ := rs_some h
      rcases hcase b ver l h with e4 | ⟨e4, e5, e6⟩
      · exact relk.fresh b ver l (rs_of hbk e4)
      · obtain ⟨k0, f1, f2⟩ := h2.fresh b ver l e6
        refine ⟨k0, ?_, f2⟩
        have hki : i + 1 ≤ k := by
          rcases Nat.lt_or_ge k (i + 1) with h | h
          · have := hlen k i (by omega) (by omega)
            omega
          · exact h
        rw [hpre (i + 1) k b hki hk e5]
        exact f1
  refine ⟨(Act.put_def _ _ _).trans d.defers, (Act.put_size _ _ _).trans d.size, by simpa using d.lsize, ?_, ?_, ?_, ?_, hrel, ?_, ?_⟩
  · intro k ok hk hok e he hb
    rw [set_get hil] at hk ⊢
    by_cases hik : i = k
    · subst hik
      rw [ho] at hok
      cases hok
      split
      · rfl
      · exact hrd e he hb
    · rw [if_neg hik] at hk
      split
      · rfl
      · exact d.closed k ok hk hok e he hb
  · intro k hk hLk
    rw [set_get hil, if_neg (by omega)]
    exact d.tailUn k hk hLk
  · intro s hs hall hL
    have hne : o.dst ≠ some s := fun hd => by
      have := hall i o hi ho hd
      rw [set_get hil, if_pos rfl] at this
      cases this
    rw [put_getD _ _ _ _ (by rw [d.size]; exact hs), if_neg hne]
    refine mono _ _ _ (d.old s hs (fun k ok hk hok hdk => ?_) fun l ol hl hol hdl => ?_)
    · have := hall k ok hk hok hdk
      rw [set_get hil] at this
      split at this
      · cases this
      · exact this
    · have := hL l ol hl hol hdl
      rw [set_get hil, if_neg (fun e => by have := (ord.lge l ol hl hol).1; omega)] at this
      exact this
  · intro k ok s hk hok hdk hs hl
    rw [put_getD _ _ _ _ (by rw [d.size]; exact hs)]
    rw [set_get hil] at hl
    by_cases hik : i = k
    · subst hik
      rw [ho] at hok
      cases hok
      rw [if_pos hdk]
      exact mono1 _ _ _ (Nat.le_refl _) h1
    · rw [if_neg (ord.dst i k o ok s hi hk hik ho hok hdk)]
      rw [if_neg hik] at hl
      exact mono _ _ _ (d.new k ok s hk hok hdk hs hl)
  · refine d.ext.trans ⟨h3.os, h3.tape, h3.output, h3.size, fun b ver l hl => rs_of (rs_some hl).1 (hsub b ver l (rs_some hl).2), fun B hB => Or.inr hB, fun B hB hn => h3.frame B hB (fun ⟨b0, k0, l0, g1, g2, g3, g4⟩ => hn ⟨b0, k0, l0, hgetM i b0 k0 (by omega) g1, g2, rs_of (Nat.lt_of_lt_of_le (rs_some g3).1 (hlen i m (by omega) (Nat.le_refl _))) (rs_some g3).2, g4⟩), fun b ver l hl => ?_, fun b k' l g1 g2 g3 => ⟨k', g1, g2, rfl⟩, fun B hB => ?_, Nat.le_refl _⟩
    · obtain ⟨hbm, hl⟩ := rs_some hl
      rcases hcase b ver l hl with e4 | ⟨e4, e5, e6⟩
      · exact .inl (rs_of hbm e4)
      · rcases h3.new b ver l e6 with h | h | ⟨b0, k0, l0, g1, g2, g3, g4⟩
        · have := (rs_some h).1
          omega
        · exact .inr (.inl h)
        · have hb0 := (rs_some g3).1
          exact .inr (.inr ⟨b0, k0, l0, hgetM i b0 k0 (by omega) g1, g2, rs_of (Nat.lt_of_lt_of_le hb0 (hlen i m (by omega) (Nat.le_refl _))) (rs_some g3).2, g4⟩)
    · rcases hB with hB | hB
      · rcases h3.roNew B hB with h | h | ⟨b0, k0, l0, g1, g2, g3, g4⟩
        · exact .inl h
        · exact .inr (.inl h)
        · have hb0 := (rs_some g3).1
          exact .inr (.inr ⟨b0, k0, l0, hgetM i b0 k0 (by omega) g1, g2, rs_of (Nat.lt_of_lt_of_le hb0 (hlen i m (by omega) (Nat.le_refl _))) (rs_some g3).2, g4⟩)
      · exact .inl hB
  · intro k hk hl b ver hb1 hb2
    rw [set_get hil] at hl
    by_cases hik : i = k
    · rw [if_pos hik] at hl
      cases hl
    · rw [if_neg hik] at hl
      have hold := d.keys k hk hl b ver hb1 hb2
      cases hc : (mix σ σ1 (Hh (i + 1)).length).ρ b ver with
      | none => rfl
      | some l =>
        rcases hcase b ver l hc with e4 | ⟨e4, e5, e6⟩
        · rw [hold] at e4
          cases e4
        · rcases Nat.lt_or_ge k i with h | h
          · have := hlen (k + 1) i (by omega) (by omega)
            omega
          · have := hlen (i + 1) k (by omega) (by omega)
            omega
end
end Go.Abs
