/- What each operation does to the second view of memory. -/
import Derived.Test.YtgmchiadphdlhaaDoorAbsCore
import Derived.Laws.Build
import Derived.Laws.BytesString
import Derived.Laws.MakeOwn
namespace Go.Abs
set_option linter.unusedVariables false
set_option linter.unusedSimpArgs false
variable {P : Program} {G : Glob} {σ : Sig} {H : AHeap} {w : World}
/-- Nothing that was there has turned. -/
inductive Alike : Option Obj → Option Obj → Prop
  | same {o o' : Option Obj} (h : o' = o) : Alike o o'
  | marked {C : Array Value} {T : TypeId} (fr fr' : Nat × Nat) (h : (C.size ≤ fr.1 ∨ fr.1 = fr.2) → C.size ≤ fr'.1 ∨ fr'.1 = fr'.2) : Alike (some (.cells C T fr)) (some (.cells C T fr'))
structure Quiet (σ : Sig) (H : AHeap) (w : World) (σ' : Sig) (w' : World) : Prop where
  heap : ∀ B, B < w.heap.size → Alike w.heap[B]? w'.heap[B]?
  keys : ∀ b ver l, σ'.ρ b ver = some l → σ.ρ b ver = some l ∨ H.length ≤ b
theorem Quiet.refl (σ : Sig) (H : AHeap) (w : World) : Quiet σ H w σ w := ⟨fun _ _ => .same rfl, fun _ _ _ h => .inl h⟩
theorem push_keys {σ : Sig} {H : AHeap} {l0 : Loc} : ∀ b ver l, (if b = H.length ∧ ver = 0 then some l0 else σ.ρ b ver) = some l → σ.ρ b ver = some l ∨ H.length ≤ b := by
  intro b ver l h
  split at h
  · rename_i e
    exact .inr (by omega)
  · exact .inl h
/-- What an operation comes to: its value, the heap behind it; q: nothing that was there has turned. -/
def Res (G : Glob) (q : Bool) (σ : Sig) (H : AHeap) (w : World) (r : AV) (H' : AHeap) (u : Value) (w' : World) : Prop :=
  ∃ σ', AR σ' w' r u ∧ Rel G σ' H' w' ∧ Ext σ H w σ' H' w' ∧ (q = true → Quiet σ H w σ' w')
theorem Res.same {q : Bool} (r : Rel G σ H w) {x : AV} {u : Value} (h : AR σ w x u) : Res G q σ H w x H u w := ⟨σ, h, r, Ext.refl _ _ _, fun _ => Quiet.refl _ _ _⟩
/-- A new block. -/
theorem Rel.push (r : Rel G σ H w) (cs : List AV) (C : Array Value) (T : TypeId) (fr : Nat × Nat) (hfr : C.size ≤ fr.1 ∨ fr.1 = fr.2) (hl : cs.length ≤ C.size) (hc : ∀ j, j < cs.length → AR σ w (cs.getD j .any) (C.getD j undef)) :
    let σ' : Sig := ⟨fun b ver => if b = H.length ∧ ver = 0 then some ⟨w.heap.size, 0, C.size⟩ else σ.ρ b ver, σ.ro⟩
    Rel G σ' (H ++ [⟨cs, 0, true, T⟩]) (w.alloc (.cells C T fr)) ∧ Ext σ H w σ' (H ++ [⟨cs, 0, true, T⟩]) (w.alloc (.cells C T fr)) ∧
      (∀ x u, AR σ w x u → AR σ' (w.alloc (.cells C T fr)) x u) := by
  intro σ'
  have hold : ∀ B, B < w.heap.size → (w.alloc (.cells C T fr)).heap[B]? = w.heap[B]? := fun B hB => RowKit.Below.heap_alloc _ _ _ hB
  have hρ : ∀ b ver l, σ.ρ b ver = some l → σ'.ρ b ver = some l := fun b ver l h => by
    simp only [σ']
    rw [if_neg]
    · exact h
    · rintro ⟨rfl, rfl⟩
      rw [r.free] at h
      cases h
  have hm : ∀ x u, AR σ w x u → AR σ' (w.alloc (.cells C T fr)) x u := fun x u h => h.mono hρ (fun _ h => h) (fun B hB => hold B (r.roLt B hB))
  have hget : ∀ b k, (H ++ [⟨cs, 0, true, T⟩] : AHeap)[b]? = some k → (H[b]? = some k ∧ b < H.length) ∨ (b = H.length ∧ k = ⟨cs, 0, true, T⟩) := by
    intro b k h
    rw [List.getElem?_append] at h
    split at h
    · exact .inl ⟨h, by assumption⟩
    · right
      have : b = H.length := by
        rcases Nat.lt_or_ge (b - H.length) 1 with h1 | h1
        · omega
        · rw [List.getElem?_eq_none (by simpa using h1)] at h
          cases h
      subst this
      simp at h
      exact ⟨rfl, h.symm⟩
  have hk : ∀ b k l, H[b]? = some k → b < H.length → σ'.ρ b k.ver = some l → σ.ρ b k.ver = some l := fun b k l _ hb h => by
    simp only [σ'] at h
    rwa [if_neg (by omega)] at h
  have hn : ∀ l, σ'.ρ H.length 0 = some l → l = ⟨w.heap.size, 0, C.size⟩ := fun l h => by
    simp only [σ'] at h
    simp at h
    exact h.symm
  refine ⟨⟨?_, ?_, ?_, ?_, ?_, fun g => hm _ _ (r.glob g), fun b ver l h => ?b0⟩, ⟨rfl, rfl, rfl, by simp, hρ, fun _ h => h, fun B hB _ => hold B hB, ?_, ?_, fun _ h => .inl h, by simp⟩, hm⟩
  case b0 =>
    simp only [σ'] at h
    split at h
    · cases h; rfl
    · exact r.base0 b ver l h
  · intro b k l h1 h2 h3
    rcases hget b k h1 with ⟨h4, h5⟩ | ⟨rfl, rfl⟩
    · obtain ⟨C0, fr0, a1, a2, a3, a4, a5⟩ := r.blk b k l h4 h2 (hk _ _ _ h4 h5 h3)
      refine ⟨C0, fr0, by rw [hold _ (Array.getElem?_eq_some_iff.1 a1).1]; exact a1, a2, a3, a4, fun j hj => ?_⟩
      obtain ⟨u, b1, b2⟩ := a5 j hj
      exact ⟨u, b1, hm _ _ b2⟩
    · obtain rfl := hn l h3
      refine ⟨C, fr, heap_alloc_new w _, rfl, by simpa using hl, hfr, fun j hj => ⟨C.getD j undef, ?_, hm _ _ (hc j hj)⟩⟩
      have : j < C.size := Nat.lt_of_lt_of_le hj hl
      simp [this]
  · intro b1 b2 k1 k2 l1 l2 h1 h2 h3 g1 g2 g3 e
    rcases hget b1 k1 h1 with ⟨h4, h5⟩ | ⟨rfl, rfl⟩ <;> rcases hget b2 k2 g1 with ⟨g4, g5⟩ | ⟨rfl, rfl⟩
    · exact r.inj b1 b2 k1 k2 l1 l2 h4 h2 (hk _ _ _ h4 h5 h3) g4 g2 (hk _ _ _ g4 g5 g3) e
    · have := r.lt h4 h2 (hk _ _ _ h4 h5 h3)
      obtain rfl := hn l2 g3
      simp only at e
      omega
    · have := r.lt g4 g2 (hk _ _ _ g4 g5 g3)
      obtain rfl := hn l1 h3
      simp only at e
      omega
    · rfl
  · intro b k l h1 h2 h3 hro
    rcases hget b k h1 with ⟨h4, h5⟩ | ⟨rfl, rfl⟩
    · exact r.apart b k l h4 h2 (hk _ _ _ h4 h5 h3) hro
    · obtain rfl := hn l h3
      have := r.roLt _ hro
      simp only at this
      omega
  · intro B hB
    have := r.roLt B hB
    simp
    omega
  · intro b ver l h
    simp only [σ'] at h
    split at h
    · rename_i e
      obtain ⟨rfl, rfl⟩ := e
      exact ⟨⟨cs, 0, true, T⟩, by simp, Nat.le_refl _⟩
    · obtain ⟨k, h1, h2⟩ := r.fresh b ver l h
      exact ⟨k, by rw [List.getElem?_append_left (List.getElem?_eq_some_iff.1 h1).1]; exact h1, h2⟩
  · intro b ver l h
    simp only [σ'] at h
    split at h
    · cases h
      exact .inr (.inl (Nat.le_refl _))
    · exact .inl h
  · intro b k' l h1 h2 h3
    rcases hget b k' h1 with ⟨h4, h5⟩ | ⟨rfl, rfl⟩
    · exact ⟨k', h4, h2, rfl⟩
    · rw [r.free] at h3
      cases h3
/-- A new block that stays as it is. -/
theorem Rel.seal (r : Rel G σ H w) (C : Array Value) (T : TypeId) (fr : Nat × Nat) :
    let σ' : Sig := ⟨σ.ρ, fun B => σ.ro B ∨ B = w.heap.size⟩
    Rel G σ' H (w.alloc (.cells C T fr)) ∧ Ext σ H w σ' H (w.alloc (.cells C T fr)) ∧ (∀ x u, AR σ w x u → AR σ' (w.alloc (.cells C T fr)) x u) := by
  intro σ'
  have hold : ∀ B, B < w.heap.size → (w.alloc (.cells C T fr)).heap[B]? = w.heap[B]? := fun B hB => RowKit.Below.heap_alloc _ _ _ hB
  have hm : ∀ x u, AR σ w x u → AR σ' (w.alloc (.cells C T fr)) x u := fun x u h => AR.mono (σ := σ) (σ' := σ') (fun _ _ _ h => h) (fun _ h => Or.inl h) (fun B hB => hold B (r.roLt B hB)) h
  refine ⟨⟨fun b k l h1 h2 h3 => ?_, r.inj, fun b k l h1 h2 h3 h => ?_, fun B h => ?_, r.fresh, fun g => hm _ _ (r.glob g), r.base0⟩,
    ⟨rfl, rfl, rfl, by simp, fun _ _ _ h => h, fun _ h => Or.inl h, fun B hB _ => hold B hB, fun _ _ _ h => .inl h, fun b k' l h h1 _ => ⟨k', h, h1, rfl⟩, fun B h => ?_, Nat.le_refl _⟩, hm⟩
  · obtain ⟨C0, fr0, a1, a2, a3, a4, a5⟩ := r.blk b k l h1 h2 h3
    refine ⟨C0, fr0, by rw [hold _ (Array.getElem?_eq_some_iff.1 a1).1]; exact a1, a2, a3, a4, fun j hj => ?_⟩
    obtain ⟨u, b1, b2⟩ := a5 j hj
    exact ⟨u, b1, hm _ _ b2⟩
  · have := r.lt h1 h2 h3
    rcases h with h | h
    · exact r.apart b k l h1 h2 h3 h
    · omega
  · rcases h with h | h
    · have := r.roLt B h
      simp
      omega
    · subst h
      simp
  · rcases h with h | h
    · exact .inl h
    · exact .inr (.inl (by omega))
/-- A block is written. -/
theorem Rel.upd (r : Rel G σ H w) {b : Nat} {k : Blk} {l : Loc} (hk : H[b]? = some k) (hlv : k.live = true) (hl : σ.ρ b k.ver = some l) {C : Array Value} {fr : Nat × Nat} {w' : World} (cs : List AV)
    (hb : w'.heap[l.B]? = some (.cells C k.elem fr)) (hsz : C.size = l.lim) (hcs : l.base + cs.length ≤ l.lim) (hfr : l.lim ≤ fr.1 ∨ fr.1 = fr.2)
    (hcells : ∀ j, j < cs.length → ∃ u, C[l.base + j]? = some u ∧ AR σ w (cs.getD j .any) u)
    (hother : ∀ B, B ≠ l.B → w'.heap[B]? = w.heap[B]?) (hsize : w'.heap.size = w.heap.size) (ho : w'.os = w.os) (ht : w'.tape = w.tape) (hp : w'.output = w.output) :
    Rel G σ (H.set b { k with cells := cs }) w' ∧ Ext σ H w σ (H.set b { k with cells := cs }) w' ∧ (∀ x u, AR σ w x u → AR σ w' x u) := by
  have hro : ∀ B, σ.ro B → w'.heap[B]? = w.heap[B]? := fun B hB => hother B (fun e => r.apart b k l hk hlv hl (e ▸ hB))
  have hm : ∀ x u, AR σ w x u → AR σ w' x u := fun x u h => h.mono (fun _ _ _ h => h) (fun _ h => h) hro
  have hlt : b < H.length := (List.getElem?_eq_some_iff.1 hk).1
  have hget : ∀ (b' : Nat) (k' : Blk), (H.set b { k with cells := cs })[b']? = some k' → (b' ≠ b ∧ H[b']? = some k') ∨ (b' = b ∧ k' = { k with cells := cs }) := by
    intro b' k' h
    rw [List.getElem?_set] at h
    split at h
    · rename_i e
      subst e
      try rw [if_pos hlt] at h
      exact .inr ⟨rfl, (Option.some.inj h).symm⟩
    · rename_i e
      exact .inl ⟨fun e' => e e'.symm, h⟩
  have hold : ∀ (b' : Nat) (k' : Blk), (H.set b { k with cells := cs })[b']? = some k' → ∃ k0, H[b']? = some k0 ∧ k0.live = k'.live ∧ k0.ver = k'.ver := by
    intro b' k' h
    rcases hget b' k' h with ⟨_, h⟩ | ⟨rfl, rfl⟩
    · exact ⟨k', h, rfl, rfl⟩
    · exact ⟨k, hk, rfl, rfl⟩
  refine ⟨⟨?_, ?_, ?_, fun B hB => by rw [hsize]; exact r.roLt B hB, ?_, fun g => hm _ _ (r.glob g), r.base0⟩,
    ⟨ho, ht, hp, by rw [hsize]; exact Nat.le_refl _, fun _ _ _ h => h, fun _ h => h, fun B _ hn => hother B (fun e => hn ⟨b, k, l, hk, hlv, hl, e.symm⟩), fun _ _ _ h => .inl h, ?_, fun _ h => .inl h, by simp⟩, hm⟩
  · intro b' k' l' h1 h2 h3
    rcases hget b' k' h1 with ⟨hne, h⟩ | ⟨rfl, rfl⟩
    · obtain ⟨C0, fr0, a1, a2, a3, a4, a5⟩ := r.blk b' k' l' h h2 h3
      refine ⟨C0, fr0, by rw [hother _ (fun e => hne (r.inj b' b k' k l' l h h2 h3 hk hlv hl e))]; exact a1, a2, a3, a4, fun j hj => ?_⟩
      obtain ⟨u, b1, b2⟩ := a5 j hj
      exact ⟨u, b1, hm _ _ b2⟩
    · have : l' = l := Option.some.inj (h3.symm.trans hl)
      subst this
      refine ⟨C, fr, hb, hsz, hcs, hfr, fun j hj => ?_⟩
      obtain ⟨u, b1, b2⟩ := hcells j hj
      exact ⟨u, b1, hm _ _ b2⟩
  · intro b1 b2 k1 k2 l1 l2 h1 h2 h3 g1 g2 g3 e
    obtain ⟨k1', a1, a2, a3⟩ := hold _ _ h1
    obtain ⟨k2', c1, c2, c3⟩ := hold _ _ g1
    exact r.inj b1 b2 k1' k2' l1 l2 a1 (a2.trans h2) (by rw [a3]; exact h3) c1 (c2.trans g2) (by rw [c3]; exact g3) e
  · intro b' k' l' h1 h2 h3
    obtain ⟨k0, a1, a2, a3⟩ := hold _ _ h1
    exact r.apart b' k0 l' a1 (a2.trans h2) (by rw [a3]; exact h3)
  · intro b' ver l' h
    obtain ⟨k0, a1, a2⟩ := r.fresh b' ver l' h
    by_cases e : b' = b
    · subst e
      rw [hk] at a1
      cases a1
      exact ⟨_, List.getElem?_set_self hlt, a2⟩
    · exact ⟨k0, by rw [List.getElem?_set_ne (fun e' => e e'.symm)]; exact a1, a2⟩
  · intro b' k' l' h1 h2 _
    obtain ⟨k0, a1, a2, a3⟩ := hold _ _ h1
    exact ⟨k0, a1, a2.trans h2, a3⟩
/-- A row grows: a new version, wherever it lies. -/
theorem Rel.bump (r : Rel G σ H w) {b : Nat} {k : Blk} (hk : H[b]? = some k) (hlv : k.live = true) {C : Array Value} {T : TypeId} {fr : Nat × Nat} {w' : World} (cs : List AV) (l' : Loc)
    (hb : w'.heap[l'.B]? = some (.cells C T fr)) (hsz : C.size = l'.lim) (hcs : l'.base + cs.length ≤ l'.lim) (hfr : l'.lim ≤ fr.1 ∨ fr.1 = fr.2)
    (hcells : ∀ j, j < cs.length → ∃ u, C[l'.base + j]? = some u ∧ AR σ w (cs.getD j .any) u)
    (hwhere : w.heap.size ≤ l'.B ∨ ∃ l, σ.ρ b k.ver = some l ∧ l.B = l'.B) (hbase : l'.base = 0)
    (hother : ∀ B, B < w.heap.size → B ≠ l'.B → w'.heap[B]? = w.heap[B]?) (hsize : w.heap.size ≤ w'.heap.size) (ho : w'.os = w.os) (ht : w'.tape = w.tape) (hp : w'.output = w.output) :
    let σ' : Sig := ⟨fun b0 ver => if b0 = b ∧ ver = k.ver + 1 then some l' else σ.ρ b0 ver, σ.ro⟩
    Rel G σ' (H.set b ⟨cs, k.ver + 1, true, T⟩) w' ∧ Ext σ H w σ' (H.set b ⟨cs, k.ver + 1, true, T⟩) w' ∧ (∀ x u, AR σ w x u → AR σ' w' x u) := by
  intro σ'
  have hlt : b < H.length := (List.getElem?_eq_some_iff.1 hk).1
  have himg : w.heap.size ≤ l'.B ∨ Img σ H l'.B := hwhere.imp id (fun ⟨l, h1, h2⟩ => ⟨b, k, l, hk, hlv, h1, h2⟩)
  have hnro : ∀ B, σ.ro B → B ≠ l'.B := by
    rintro B hB rfl
    rcases hwhere with h | ⟨l, h1, h2⟩
    · have := r.roLt _ hB
      omega
    · exact r.apart b k l hk hlv h1 (h2 ▸ hB)
  have hro : ∀ B, σ.ro B → w'.heap[B]? = w.heap[B]? := fun B hB => hother B (r.roLt B hB) (hnro B hB)
  have hnone : σ.ρ b (k.ver + 1) = none := r.later hk (Nat.lt_succ_self _)
  have hρ : ∀ b0 ver l, σ.ρ b0 ver = some l → σ'.ρ b0 ver = some l := fun b0 ver l h => by
    simp only [σ']
    rw [if_neg]
    · exact h
    · rintro ⟨rfl, rfl⟩
      rw [hnone] at h
      cases h
  have hm : ∀ x u, AR σ w x u → AR σ' w' x u := fun x u h => h.mono hρ (fun _ h => h) hro
  have hget : ∀ (b' : Nat) (k' : Blk), (H.set b ⟨cs, k.ver + 1, true, T⟩)[b']? = some k' → (b' ≠ b ∧ H[b']? = some k') ∨ (b' = b ∧ k' = ⟨cs, k.ver + 1, true, T⟩) := by
    intro b' k' h
    rw [List.getElem?_set] at h
    split at h
    · rename_i e
      subst e
      try rw [if_pos hlt] at h
      exact .inr ⟨rfl, (Option.some.inj h).symm⟩
    · rename_i e
      exact .inl ⟨fun e' => e e'.symm, h⟩
  have hk' : ∀ b' k' l, b' ≠ b → σ'.ρ b' k' = some l → σ.ρ b' k' = some l := fun b' k' l hne h => by
    simp only [σ'] at h
    rwa [if_neg (fun e => hne e.1)] at h
  have hn : ∀ l, σ'.ρ b (k.ver + 1) = some l → l = l' := fun l h => by
    simp only [σ'] at h
    simp at h
    exact h.symm
  have hfar : ∀ b' k' l, b' ≠ b → H[b']? = some k' → k'.live = true → σ.ρ b' k'.ver = some l → l.B ≠ l'.B := by
    intro b' k' l hne h1 h2 h3 e
    rcases hwhere with h | ⟨l0, g1, g2⟩
    · have := r.lt h1 h2 h3
      omega
    · exact hne (r.inj b' b k' k l l0 h1 h2 h3 hk hlv g1 (e.trans g2.symm))
  refine ⟨⟨?_, ?_, ?_, fun B hB => Nat.lt_of_lt_of_le (r.roLt B hB) hsize, ?_, fun g => hm _ _ (r.glob g), fun b0 ver l h => by
      simp only [σ'] at h
      split at h
      · cases h; exact hbase
      · exact r.base0 b0 ver l h⟩,
    ⟨ho, ht, hp, hsize, hρ, fun _ h => h, fun B hB hni => hother B hB (fun e => ?_), ?_, ?_, fun _ h => .inl h, by simp⟩, hm⟩
  · intro b' k' l h1 h2 h3
    rcases hget b' k' h1 with ⟨hne, h⟩ | ⟨rfl, rfl⟩
    · have h4 := hk' _ _ _ hne h3
      obtain ⟨C0, fr0, a1, a2, a3, a4, a5⟩ := r.blk b' k' l h h2 h4
      refine ⟨C0, fr0, by rw [hother _ (r.lt h h2 h4) (hfar _ _ _ hne h h2 h4)]; exact a1, a2, a3, a4, fun j hj => ?_⟩
      obtain ⟨u, b1, b2⟩ := a5 j hj
      exact ⟨u, b1, hm _ _ b2⟩
    · obtain rfl := hn l h3
      refine ⟨C, fr, hb, hsz, hcs, hfr, fun j hj => ?_⟩
      obtain ⟨u, b1, b2⟩ := hcells j hj
      exact ⟨u, b1, hm _ _ b2⟩
  · intro b1 b2 k1 k2 l1 l2 h1 h2 h3 g1 g2 g3 e
    rcases hget b1 k1 h1 with ⟨n1, h4⟩ | ⟨rfl, rfl⟩ <;> rcases hget b2 k2 g1 with ⟨n2, g4⟩ | ⟨rfl, rfl⟩
    · exact r.inj b1 b2 k1 k2 l1 l2 h4 h2 (hk' _ _ _ n1 h3) g4 g2 (hk' _ _ _ n2 g3) e
    · obtain rfl := hn l2 g3
      exact absurd e (hfar _ _ _ n1 h4 h2 (hk' _ _ _ n1 h3))
    · obtain rfl := hn l1 h3
      exact absurd e.symm (hfar _ _ _ n2 g4 g2 (hk' _ _ _ n2 g3))
    · rfl
  · intro b' k' l h1 h2 h3 hB
    rcases hget b' k' h1 with ⟨hne, h⟩ | ⟨rfl, rfl⟩
    · exact r.apart b' k' l h h2 (hk' _ _ _ hne h3) hB
    · obtain rfl := hn l h3
      exact hnro _ hB rfl
  · intro b' ver l h
    simp only [σ'] at h
    split at h
    · rename_i e
      obtain ⟨rfl, rfl⟩ := e
      exact ⟨_, List.getElem?_set_self hlt, Nat.le_refl _⟩
    · obtain ⟨k0, a1, a2⟩ := r.fresh b' ver l h
      by_cases e : b' = b
      · subst e
        rw [hk] at a1
        cases a1
        exact ⟨_, List.getElem?_set_self hlt, Nat.le_succ_of_le a2⟩
      · exact ⟨k0, by rw [List.getElem?_set_ne (fun e' => e e'.symm)]; exact a1, a2⟩
  · rcases himg with h | h
    · omega
    · exact hni (e ▸ h)
  · intro b' ver l h
    simp only [σ'] at h
    split at h
    · cases h
      exact .inr himg
    · exact .inl h
  · intro b' k' l h1 h2 h3
    rcases hget b' k' h1 with ⟨hne, h⟩ | ⟨rfl, rfl⟩
    · exact ⟨k', h, h2, rfl⟩
    · rw [hnone] at h3
      cases h3
/-- A block is left to be read alone. -/
theorem Rel.freeze (r : Rel G σ H w) {b : Nat} {k : Blk} (hk : H[b]? = some k) (hlv : k.live = true) {l : Loc} (hl : σ.ρ b k.ver = some l) :
    let σ' : Sig := ⟨σ.ρ, fun B => σ.ro B ∨ B = l.B⟩
    Rel G σ' (H.set b { k with live := false }) w ∧ Ext σ H w σ' (H.set b { k with live := false }) w ∧ (∀ x u, AR σ w x u → AR σ' w x u) ∧
      (∀ o n, o + n ≤ k.cells.length → ∃ u : Nat → Value, (∀ j, j < n → w.cell? ⟨l.B, l.base + o + j, none⟩ = some (u j)) ∧ ∀ j, j < n → AR σ' w (k.cells.getD (o + j) .any) (u j)) := by
  intro σ'
  have hlt : b < H.length := (List.getElem?_eq_some_iff.1 hk).1
  have hm : ∀ x u, AR σ w x u → AR σ' w x u := fun x u h => AR.mono (σ := σ) (σ' := σ') (fun _ _ _ h => h) (fun _ h => Or.inl h) (fun _ _ => rfl) h
  have hget : ∀ (b' : Nat) (k' : Blk), (H.set b { k with live := false })[b']? = some k' → k'.live = true → b' ≠ b ∧ H[b']? = some k' := by
    intro b' k' h h2
    rw [List.getElem?_set] at h
    split at h
    · rename_i e
      subst e
      try rw [if_pos hlt] at h
      cases h
      cases h2
    · rename_i e
      exact ⟨fun e' => e e'.symm, h⟩
  refine ⟨⟨fun b' k' l' h1 h2 h3 => ?_, fun b1 b2 k1 k2 l1 l2 h1 h2 h3 g1 g2 g3 => r.inj b1 b2 k1 k2 l1 l2 (hget _ _ h1 h2).2 h2 h3 (hget _ _ g1 g2).2 g2 g3, fun b' k' l' h1 h2 h3 h => ?_, fun B h => ?_, fun b' ver l' h => ?_, fun g => hm _ _ (r.glob g), r.base0⟩,
    ⟨rfl, rfl, rfl, Nat.le_refl _, fun _ _ _ h => h, fun _ h => Or.inl h, fun _ _ _ => rfl, fun _ _ _ h => .inl h, fun b' k' l' h1 h2 h3 => ⟨k', (hget _ _ h1 h2).2, h2, rfl⟩, fun B h => ?_, by simp⟩, hm, ?_⟩
  · obtain ⟨C0, fr0, a1, a2, a3, a4, a5⟩ := r.blk b' k' l' (hget _ _ h1 h2).2 h2 h3
    refine ⟨C0, fr0, a1, a2, a3, a4, fun j hj => ?_⟩
    obtain ⟨u, b1, b2⟩ := a5 j hj
    exact ⟨u, b1, hm _ _ b2⟩
  · obtain ⟨hne, h4⟩ := hget _ _ h1 h2
    rcases h with h | h
    · exact r.apart b' k' l' h4 h2 h3 h
    · exact hne (r.inj b' b k' k l' l h4 h2 h3 hk hlv hl h)
  · rcases h with h | rfl
    · exact r.roLt B h
    · exact r.lt hk hlv hl
  · obtain ⟨k0, a1, a2⟩ := r.fresh b' ver l' h
    by_cases e : b' = b
    · subst e
      rw [hk] at a1
      cases a1
      exact ⟨_, List.getElem?_set_self hlt, a2⟩
    · exact ⟨k0, by rw [List.getElem?_set_ne (fun e' => e e'.symm)]; exact a1, a2⟩
  · rcases h with h | rfl
    · exact .inl h
    · exact .inr (.inr ⟨b, k, l, hk, hlv, hl, rfl⟩)
  · intro o n hon
    obtain ⟨C0, fr0, a1, a2, a3, a4, a5⟩ := r.blk b k l hk hlv hl
    refine ⟨fun j => C0.getD (l.base + o + j) undef, fun j hj => ?_, fun j hj => ?_⟩
    · obtain ⟨u, b1, _⟩ := a5 (o + j) (by omega)
      rw [← Nat.add_assoc] at b1
      rw [cell_of_row w l.B _ C0 k.elem fr0 a1, b1]
      simp [b1]
    · obtain ⟨u, b1, b2⟩ := a5 (o + j) (by omega)
      rw [← Nat.add_assoc] at b1
      have : C0.getD (l.base + o + j) undef = u := by simp [b1]
      show AR σ' w _ (C0.getD (l.base + o + j) undef)
      rw [this]
      exact hm _ _ b2
end Go.Abs
