/- Calls that lean on little memory, in any memory. -/
import Derived.Test.YtgmchiadphdlhaaDoorAbsCall
namespace Go.Abs
set_option linter.unusedVariables false
set_option linter.unusedSimpArgs false
variable {P : Program} {G : Glob} {σ : Sig} {H : AHeap} {w : World}
theorem NR.into {x : AV} (hx : NR x) {σ σ' : Sig} {w : World} {u : Value} (h : AR σ w x u) (hro : ∀ B, σ.ro B → σ'.ro B) : AR σ' w x u := hx.to hro h
/-- A call that reads its arguments alone. -/
def PCall (P : Program) (G : Glob) (n : FuncId) (args : List AV) (r : AV) : Prop := ∀ H, ACall P G true n args H r H
/-- A call of a method that reads and writes one block. -/
def MCall (P : Program) (G : Glob) (n : FuncId) (args : List AV) (k : Blk) (r : AV) (k' : Blk) : Prop := ∀ (H : AHeap) (b : Nat), H[b]? = some k → ACall P G false n (.ptr b k.ver 0 :: args) H r (H.set b k')
/-- A call that returns a slice of its own. -/
def NCall (P : Program) (G : Glob) (n : FuncId) (args : List AV) (e : TypeId) (len cap sz : Nat) (x : Bool) (cs : List AV) : Prop := ∀ H, ACall P G true n args H (.sl H.length 0 0 len cap sz x) (H ++ [⟨cs, 0, true, e⟩])
theorem ACall.weakQ {q : Bool} {n : FuncId} {args : List AV} {r : AV} {H' : AHeap} (h : ACall P G q n args H r H') : ACall P G false n args H r H' :=
  ⟨h.1, fun σ w us h1 h2 h3 => (h.2 σ w us h1 h2 h3).mono fun e w' ⟨u, h4, h5⟩ => ⟨u, h4, Go.Abs.weakQ h5 fun h => by cases h⟩⟩
theorem Rel.none (hG : GN G) (r : Rel G σ H w) : Rel G ⟨fun _ _ => none, σ.ro⟩ [] w :=
  ⟨fun b k l h => (by simp at h), fun b1 b2 k1 k2 l1 l2 h => (by simp at h), fun b k l h => (by simp at h), r.roLt, fun b ver l h => (by cases h), fun g => (hG g).into (r.glob g) (fun _ h => h), fun b ver l h => (by cases h)⟩
theorem args_nr {args : List AV} {us : Array Value} (hn : ∀ a ∈ args, NR a) (h : ∀ j, j < args.length → AR σ w (args.getD j .any) (us.getD j undef)) : ∀ j, j < args.length → AR ⟨fun _ _ => none, σ.ro⟩ w (args.getD j .any) (us.getD j undef) :=
  fun j hj => hn _ (by simp [List.getD_eq_getElem?_getD, hj]) σ w _ (h j hj)
theorem noImg {σ : Sig} {B : Nat} : ¬ Img σ [] B := fun ⟨b, k, l, h, _⟩ => by simp at h
theorem PCall.of (hG : GN G) {n : FuncId} {args : List AV} {r : AV} (hargs : ∀ a ∈ args, NR a) (hr : NR r) (h : ACall P G true n args [] r []) : PCall P G n args r := by
  refine fun H => ⟨h.1, fun σ w us h1 h2 rel => ?_⟩
  refine (h.2 ⟨fun _ _ => none, σ.ro⟩ w us h1 (args_nr hargs h2) (rel.none hG)).mono fun e w' ⟨u, he, σ1, a1, a2, a3, a4⟩ => ⟨u, he, ?_⟩
  have hheap : ∀ B, B < w.heap.size → w'.heap[B]? = w.heap[B]? := fun B hB => a3.frame B hB noImg
  have hro : ∀ B, σ.ro B → σ1.ro B := a3.ro
  have hm : ∀ x v, AR σ w x v → AR ⟨σ.ρ, σ1.ro⟩ w' x v := fun x v h => AR.mono (σ := σ) (σ' := ⟨σ.ρ, σ1.ro⟩) (fun _ _ _ h => h) hro (fun B hB => hheap B (rel.roLt B hB)) h
  have hnew : ∀ B, σ1.ro B → σ.ro B ∨ w.heap.size ≤ B := fun B hB => by
    rcases a3.roNew B hB with h | h | h
    · exact .inl h
    · exact .inr h
    · exact absurd h noImg
  refine ⟨⟨σ.ρ, σ1.ro⟩, hr.into a1 (fun _ h => h), ⟨fun b k l g1 g2 g3 => ?_, rel.inj, fun b k l g1 g2 g3 g4 => ?_, a2.roLt, rel.fresh, fun g => hm _ _ (rel.glob g), rel.base0⟩,
    ⟨a3.os, a3.tape, a3.output, a3.size, fun _ _ _ h => h, hro, fun B hB _ => hheap B hB, fun _ _ _ h => .inl h, fun b k' l g1 g2 g3 => ⟨k', g1, g2, rfl⟩, fun B hB => (hnew B hB).imp id .inl, Nat.le_refl _⟩, fun _ => ⟨fun B hB => .same (hheap B hB), fun _ _ _ h => .inl h⟩⟩
  · obtain ⟨C, fr, c1, c2, c3, c4, c5⟩ := rel.blk b k l g1 g2 g3
    refine ⟨C, fr, by rw [hheap _ (Array.getElem?_eq_some_iff.1 c1).1]; exact c1, c2, c3, c4, fun j hj => ?_⟩
    obtain ⟨v, e1, e2⟩ := c5 j hj
    exact ⟨v, e1, hm _ _ e2⟩
  · rcases hnew _ g4 with h | h
    · exact rel.apart b k l g1 g2 g3 h
    · have := rel.lt g1 g2 g3
      omega
theorem NCall.of (hG : GN G) {n : FuncId} {args : List AV} {e : TypeId} {len cap sz v : Nat} {x : Bool} {cs : List AV} (hargs : ∀ a ∈ args, NR a) (hcs : ∀ c ∈ cs, NR c) (h : ACall P G true n args [] (.sl 0 v 0 len cap sz x) [⟨cs, v, true, e⟩]) : NCall P G n args e len cap sz x cs := by
  refine fun H => ⟨h.1, fun σ w us h1 h2 rel => ?_⟩
  refine (h.2 ⟨fun _ _ => none, σ.ro⟩ w us h1 (args_nr hargs h2) (rel.none hG)).mono fun e' w' ⟨u, he, σ1, a1, a2, a3, a4⟩ => ⟨u, he, ?_⟩
  have hheap : ∀ B, B < w.heap.size → w'.heap[B]? = w.heap[B]? := fun B hB => a3.frame B hB noImg
  have hro : ∀ B, σ.ro B → σ1.ro B := a3.ro
  let σ' : Sig := ⟨fun b ver => if b = H.length ∧ ver = 0 then σ1.ρ 0 v else σ.ρ b ver, σ1.ro⟩
  have hρ : ∀ b ver l, σ.ρ b ver = some l → σ'.ρ b ver = some l := fun b ver l hl => by
    simp only [σ']
    rw [if_neg]
    · exact hl
    · rintro ⟨rfl, rfl⟩
      rw [rel.free] at hl
      cases hl
  have hm : ∀ x v, AR σ w x v → AR σ' w' x v := fun x v h => AR.mono (σ := σ) (σ' := σ') hρ hro (fun B hB => hheap B (rel.roLt B hB)) h
  have hnew : ∀ B, σ1.ro B → σ.ro B ∨ w.heap.size ≤ B := fun B hB => by
    rcases a3.roNew B hB with h | h | h
    · exact .inl h
    · exact .inr h
    · exact absurd h noImg
  have hnB : ∀ l, σ1.ρ 0 v = some l → w.heap.size ≤ l.B := fun l hl => by
    rcases a3.new _ _ _ hl with h | h | h
    · cases h
    · exact h
    · exact absurd h noImg
  have hget : ∀ (b : Nat) (k : Blk), (H ++ [(⟨cs, 0, true, e⟩ : Blk)])[b]? = some k → (H[b]? = some k ∧ b < H.length) ∨ (b = H.length ∧ k = ⟨cs, 0, true, e⟩) := by
    intro b k h
    rw [List.getElem?_append] at h
    split at h
    · exact .inl ⟨h, by assumption⟩
    · right
      have : b = H.length := by
        rcases Nat.lt_or_ge (b - H.length) 1 with h1 | h1
        · omega
        · rw [List.getElem?_eq_none (by simpa using h1)] at h
          cases h
      subst this
      simp at h
      exact ⟨rfl, h.symm⟩
  have hold : ∀ b ver l, b < H.length → σ'.ρ b ver = some l → σ.ρ b ver = some l := fun b ver l hb h => by
    simp only [σ'] at h
    rwa [if_neg (by omega)] at h
  have hthe : ∀ l, σ'.ρ H.length 0 = some l → σ1.ρ 0 v = some l := fun l h => by
    simp only [σ'] at h
    simpa using h
  refine ⟨σ', ?_, ⟨?_, ?_, ?_, a2.roLt, ?_, fun g => hm _ _ (rel.glob g), fun b ver l h => ?b0⟩, ⟨a3.os, a3.tape, a3.output, a3.size, hρ, hro, fun B hB _ => hheap B hB, ?_, ?_, fun B hB => (hnew B hB).imp id .inl, by simp⟩, fun _ => ⟨fun B hB => .same (hheap B hB), ?_⟩⟩
  case b0 =>
    simp only [σ'] at h
    split at h
    · exact a2.base0 0 v l h
    · exact rel.base0 b ver l h
  · cases a1 with
    | sl hl g1 g2 g3 => exact .sl (σ := σ') (by simp only [σ']; simpa using hl) g1 g2 g3
    | sl0 A => exact .sl0 A
  · intro b k l g1 g2 g3
    rcases hget b k g1 with ⟨g4, g5⟩ | ⟨rfl, rfl⟩
    · obtain ⟨C, fr, c1, c2, c3, c4, c5⟩ := rel.blk b k l g4 g2 (hold _ _ _ g5 g3)
      refine ⟨C, fr, by rw [hheap _ (Array.getElem?_eq_some_iff.1 c1).1]; exact c1, c2, c3, c4, fun j hj => ?_⟩
      obtain ⟨y, e1, e2⟩ := c5 j hj
      exact ⟨y, e1, hm _ _ e2⟩
    · obtain ⟨C, fr, c1, c2, c3, c4, c5⟩ := a2.blk 0 _ l rfl rfl (hthe l g3)
      refine ⟨C, fr, c1, c2, c3, c4, fun j hj => ?_⟩
      obtain ⟨y, e1, e2⟩ := c5 j hj
      exact ⟨y, e1, (hcs _ (by simp [List.getD_eq_getElem?_getD, show j < cs.length from hj])).into e2 (fun _ h => h)⟩
  · intro b1 b2 k1 k2 l1 l2 g1 g2 g3 f1 f2 f3 ee
    rcases hget b1 k1 g1 with ⟨g4, g5⟩ | ⟨rfl, rfl⟩ <;> rcases hget b2 k2 f1 with ⟨f4, f5⟩ | ⟨rfl, rfl⟩
    · exact rel.inj b1 b2 k1 k2 l1 l2 g4 g2 (hold _ _ _ g5 g3) f4 f2 (hold _ _ _ f5 f3) ee
    · have := rel.lt g4 g2 (hold _ _ _ g5 g3)
      have := hnB l2 (hthe l2 f3)
      omega
    · have := rel.lt f4 f2 (hold _ _ _ f5 f3)
      have := hnB l1 (hthe l1 g3)
      omega
    · rfl
  · intro b k l g1 g2 g3 g4
    rcases hget b k g1 with ⟨f4, f5⟩ | ⟨rfl, rfl⟩
    · rcases hnew _ g4 with h | h
      · exact rel.apart b k l f4 g2 (hold _ _ _ f5 g3) h
      · have := rel.lt f4 g2 (hold _ _ _ f5 g3)
        omega
    · exact a2.apart 0 _ l rfl rfl (hthe l g3) g4
  · intro b ver l h
    simp only [σ'] at h
    split at h
    · rename_i ee
      obtain ⟨rfl, rfl⟩ := ee
      exact ⟨⟨cs, 0, true, e⟩, by simp, Nat.le_refl _⟩
    · obtain ⟨k, h1, h2⟩ := rel.fresh b ver l h
      exact ⟨k, by rw [List.getElem?_append_left (List.getElem?_eq_some_iff.1 h1).1]; exact h1, h2⟩
  · intro b ver l h
    simp only [σ'] at h
    split at h
    · exact .inr (.inl (hnB l h))
    · exact .inl h
  · intro b k' l g1 g2 g3
    rcases hget b k' g1 with ⟨f4, f5⟩ | ⟨rfl, rfl⟩
    · exact ⟨k', f4, g2, rfl⟩
    · rw [rel.free] at g3
      cases g3
  · intro b ver l h
    simp only [σ'] at h
    split at h
    · rename_i ee
      exact .inr (by omega)
    · exact .inl h
theorem MCall.of (hG : GN G) {n : FuncId} {args : List AV} {k k' : Blk} {r : AV} (hlv : k.live = true) (hlv' : k'.live = true) (hargs : ∀ a ∈ args, NR a) (hr : NR r) (hk : ∀ c ∈ k.cells, NR c) (hk' : ∀ c ∈ k'.cells, NR c) (h : ACall P G false n (.ptr 0 k.ver 0 :: args) [k] r [k']) :
    MCall P G n args k r k' := by
  refine fun H b hb => ⟨h.1, fun σ w us h1 h2 rel => ?_⟩
  have hblt : b < H.length := (List.getElem?_eq_some_iff.1 hb).1
  let σl : Sig := ⟨fun i ver => if i = 0 then σ.ρ b ver else none, σ.ro⟩
  have hl0 : ∀ ver, σl.ρ 0 ver = σ.ρ b ver := fun ver => by simp [σl]
  have relL : Rel G σl [k] w := by
    refine ⟨fun i k0 l g1 g2 g3 => ?_, fun b1 b2 k1 k2 l1 l2 g1 _ _ f1 _ _ _ => ?_, fun i k0 l g1 g2 g3 => ?_, rel.roLt, fun i ver l g => ?_, fun g => (hG g).into (rel.glob g) (fun _ h => h), fun i ver l g => ?b0⟩
    case b0 =>
      simp only [σl] at g
      split at g
      · exact rel.base0 b ver l g
      · cases g
    · have hi : i = 0 := by
        have := (List.getElem?_eq_some_iff.1 g1).1
        simpa using this
      subst hi
      simp at g1
      subst g1
      obtain ⟨C, fr, c1, c2, c3, c4, c5⟩ := rel.blk b k l hb g2 (by rw [← hl0]; exact g3)
      refine ⟨C, fr, c1, c2, c3, c4, fun j hj => ?_⟩
      obtain ⟨y, e1, e2⟩ := c5 j hj
      exact ⟨y, e1, (hk _ (by simp [List.getD_eq_getElem?_getD, hj])).into e2 (fun _ h => h)⟩
    · have := (List.getElem?_eq_some_iff.1 g1).1
      have := (List.getElem?_eq_some_iff.1 f1).1
      simp at *
      omega
    · have hi : i = 0 := by
        have := (List.getElem?_eq_some_iff.1 g1).1
        simpa using this
      subst hi
      simp at g1
      subst g1
      exact rel.apart b k l hb g2 (by rw [← hl0]; exact g3)
    · simp only [σl] at g
      split at g
      · rename_i e
        subst e
        obtain ⟨k0, e1, e2⟩ := rel.fresh b ver l g
        rw [hb] at e1
        cases e1
        exact ⟨k, rfl, e2⟩
      · cases g
  have argsL : ∀ j, j < (AV.ptr 0 k.ver 0 :: args).length → AR σl w ((AV.ptr 0 k.ver 0 :: args).getD j .any) (us.getD j undef) := by
    intro j hj
    cases j with
    | zero =>
      have := h2 0 (by simp)
      simp only [List.getD_cons_zero] at this ⊢
      generalize us.getD 0 undef = u0 at *
      cases this with
      | ptr hl => exact .ptr (σ := σl) (by rw [hl0]; exact hl)
    | succ j =>
      have := h2 (j + 1) (by simpa using hj)
      simp only [List.getD_cons_succ] at this ⊢
      have hj' : j < args.length := by simpa using hj
      exact (hargs _ (by simp [List.getD_eq_getElem?_getD, hj'])).into this (fun _ h => h)
  refine (h.2 σl w us (by simpa using h1) argsL relL).mono fun e w' ⟨u, he, σ1, a1, a2, a3, _⟩ => ⟨u, he, ?_⟩
  have himg : ∀ B, Img σl [k] B → ∃ l, σ.ρ b k.ver = some l ∧ l.B = B := by
    rintro B ⟨i, k0, l, g1, g2, g3, g4⟩
    have hi : i = 0 := by
      have := (List.getElem?_eq_some_iff.1 g1).1
      simpa using this
    subst hi
    simp at g1
    subst g1
    exact ⟨l, by rw [← hl0]; exact g3, g4⟩
  have himgH : ∀ B, Img σl [k] B → Img σ H B := fun B hB => by
    obtain ⟨l, g1, g2⟩ := himg B hB
    exact ⟨b, k, l, hb, hlv, g1, g2⟩
  have hro : ∀ B, σ.ro B → σ1.ro B := a3.ro
  have hroH : ∀ B, σ.ro B → w'.heap[B]? = w.heap[B]? := fun B hB => a3.frame B (rel.roLt B hB) fun hi => by
    obtain ⟨l, g1, g2⟩ := himg B hi
    exact rel.apart b k l hb hlv g1 (g2 ▸ hB)
  let σ' : Sig := ⟨fun b' ver => if b' = b then σ1.ρ 0 ver else σ.ρ b' ver, σ1.ro⟩
  have hρ : ∀ b' ver l, σ.ρ b' ver = some l → σ'.ρ b' ver = some l := fun b' ver l hl => by
    simp only [σ']
    by_cases e : b' = b
    · subst e
      rw [if_pos rfl]
      exact a3.ρ 0 ver l (by rw [hl0]; exact hl)
    · rw [if_neg e]
      exact hl
  have hm : ∀ x v, AR σ w x v → AR σ' w' x v := fun x v h => AR.mono (σ := σ) (σ' := σ') hρ hro hroH h
  have hget : ∀ (b' : Nat) (k0 : Blk), (H.set b k')[b']? = some k0 → (b' ≠ b ∧ H[b']? = some k0) ∨ (b' = b ∧ k0 = k') := by
    intro b' k0 h
    rw [List.getElem?_set] at h
    split at h
    · rename_i e
      subst e
      try rw [if_pos hblt] at h
      exact .inr ⟨rfl, (Option.some.inj h).symm⟩
    · rename_i e
      exact .inl ⟨fun e' => e e'.symm, h⟩
  have hthe : ∀ ver l, σ'.ρ b ver = some l → σ1.ρ 0 ver = some l := fun ver l h => by
    simp only [σ'] at h
    simpa using h
  have hoth : ∀ b' ver l, b' ≠ b → σ'.ρ b' ver = some l → σ.ρ b' ver = some l := fun b' ver l hne h => by
    simp only [σ'] at h
    rwa [if_neg hne] at h
  -- another block lies apart from the written one
  have hfar : ∀ b' k0 l l1, b' ≠ b → H[b']? = some k0 → k0.live = true → σ.ρ b' k0.ver = some l → σ1.ρ 0 k'.ver = some l1 → l.B ≠ l1.B := by
    intro b' k0 l l1 hne g1 g2 g3 g4 e
    have hlt := rel.lt g1 g2 g3
    rcases a3.new 0 k'.ver l1 g4 with h | h | h
    · obtain ⟨k2, f1, f2, f3⟩ := a3.stay 0 k' l1 rfl hlv' h
      simp at f1
      subst f1
      rw [← f3, hl0] at h
      exact hne (rel.inj b' b k0 k l l1 g1 g2 g3 hb hlv h e)
    · omega
    · obtain ⟨l2, f1, f2⟩ := himg _ h
      exact hne (rel.inj b' b k0 k l l2 g1 g2 g3 hb hlv f1 (e.trans f2.symm))
  refine ⟨σ', hr.into a1 (fun _ h => h), ⟨?_, ?_, ?_, a2.roLt, ?_, fun g => hm _ _ (rel.glob g), fun b' ver l g => ?b0⟩, ⟨a3.os, a3.tape, a3.output, a3.size, hρ, hro, fun B hB hn => a3.frame B hB (fun hi => hn (himgH B hi)), ?_, ?_, ?_, by simp⟩, fun h => by cases h⟩
  case b0 =>
    by_cases e : b' = b
    · subst e
      simp only [σ', if_true] at g
      exact a2.base0 0 ver l g
    · exact rel.base0 b' ver l (hoth _ _ _ e g)
  · intro b' k0 l g1 g2 g3
    rcases hget b' k0 g1 with ⟨hne, g4⟩ | ⟨rfl, rfl⟩
    · have g5 := hoth _ _ _ hne g3
      obtain ⟨C, fr, c1, c2, c3, c4, c5⟩ := rel.blk b' k0 l g4 g2 g5
      have hkeep : w'.heap[l.B]? = w.heap[l.B]? := a3.frame _ (rel.lt g4 g2 g5) fun hi => by
        obtain ⟨l2, f1, f2⟩ := himg _ hi
        exact hne (rel.inj b' b k0 k l l2 g4 g2 g5 hb hlv f1 f2.symm)
      refine ⟨C, fr, by rw [hkeep]; exact c1, c2, c3, c4, fun j hj => ?_⟩
      obtain ⟨y, e1, e2⟩ := c5 j hj
      exact ⟨y, e1, hm _ _ e2⟩
    · obtain ⟨C, fr, c1, c2, c3, c4, c5⟩ := a2.blk 0 k0 l rfl g2 (hthe _ _ g3)
      refine ⟨C, fr, c1, c2, c3, c4, fun j hj => ?_⟩
      obtain ⟨y, e1, e2⟩ := c5 j hj
      exact ⟨y, e1, (hk' _ (by simp [List.getD_eq_getElem?_getD, hj])).into e2 (fun _ h => h)⟩
  · intro b1 b2 k1 k2 l1 l2 g1 g2 g3 f1 f2 f3 ee
    rcases hget b1 k1 g1 with ⟨n1, g4⟩ | ⟨rfl, rfl⟩ <;> rcases hget b2 k2 f1 with ⟨n2, f4⟩ | ⟨rfl, rfl⟩
    · exact rel.inj b1 b2 k1 k2 l1 l2 g4 g2 (hoth _ _ _ n1 g3) f4 f2 (hoth _ _ _ n2 f3) ee
    · exact absurd ee (hfar b1 k1 l1 l2 n1 g4 g2 (hoth _ _ _ n1 g3) (hthe _ _ f3))
    · exact absurd ee.symm (hfar b2 k2 l2 l1 n2 f4 f2 (hoth _ _ _ n2 f3) (hthe _ _ g3))
    · rfl
  · intro b' k0 l g1 g2 g3 g4
    rcases hget b' k0 g1 with ⟨hne, f4⟩ | ⟨rfl, rfl⟩
    · have g5 := hoth _ _ _ hne g3
      rcases a3.roNew _ g4 with h | h | h
      · exact rel.apart b' k0 l f4 g2 g5 h
      · have := rel.lt f4 g2 g5
        omega
      · obtain ⟨l2, e1, e2⟩ := himg _ h
        exact hne (rel.inj b' b k0 k l l2 f4 g2 g5 hb hlv e1 e2.symm)
    · exact a2.apart 0 k0 l rfl g2 (hthe _ _ g3) g4
  · intro b' ver l h
    by_cases e : b' = b
    · subst e
      obtain ⟨k0, e1, e2⟩ := a2.fresh 0 ver l (hthe _ _ h)
      simp at e1
      subst e1
      exact ⟨_, List.getElem?_set_self hblt, e2⟩
    · obtain ⟨k0, e1, e2⟩ := rel.fresh b' ver l (hoth _ _ _ e h)
      exact ⟨k0, by rw [List.getElem?_set_ne (fun e' => e e'.symm)]; exact e1, e2⟩
  · intro b' ver l h
    by_cases e : b' = b
    · subst e
      rcases a3.new 0 ver l (hthe _ _ h) with h1 | h1 | h1
      · exact .inl (by rw [← hl0]; exact h1)
      · exact .inr (.inl h1)
      · exact .inr (.inr (himgH _ h1))
    · exact .inl (hoth _ _ _ e h)
  · intro b' k0 l g1 g2 g3
    rcases hget b' k0 g1 with ⟨hne, f4⟩ | ⟨rfl, rfl⟩
    · exact ⟨k0, f4, g2, rfl⟩
    · obtain ⟨k2, f1, f2, f3⟩ := a3.stay 0 k0 l rfl g2 (by rw [hl0]; exact g3)
      simp at f1
      subst f1
      exact ⟨_, hb, f2, f3⟩
  · intro B hB
    rcases a3.roNew B hB with h | h | h
    · exact .inl h
    · exact .inr (.inl h)
    · exact .inr (.inr (himgH B h))
end Go.Abs
