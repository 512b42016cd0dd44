/- A second view of memory: values by what they hold, a small heap of the blocks that a call itself may write; how it stands to the machine's memory. -/
import Derived.Calls
import Derived.Tactics
import Derived.Below
import Derived.Laws.Entries
import Derived.Laws.Append
import Derived.Laws.CopyRow
import Derived.Laws.Cells
namespace Go.Abs
set_option linter.unusedVariables false
/-- A value, by what it holds. -/
inductive AV where
  | any
  | v (x : Value)
  | ptr (b ver off : Nat)
  | sl (b ver off len cap sz : Nat) (x : Bool)
  | vptr (cs : List AV) (off : Nat)
  | vsl (len : Nat) (cs : List AV) (cx : Option Nat)
  | agg (cs : List AV)
  | tup (cs : List AV)
  | fn (f : Fn) (caps : List AV)
  | ifc (t : TypeId) (x : AV)
  | ub
  | bsl (b ver n : Nat)
  | bad (b ver : Nat)
  | usd (b ver n : Nat)
  deriving Inhabited
/-- Where a block lies in the machine. -/
structure Loc where
  B : Nat
  base : Nat
  lim : Nat
structure Sig where
  ρ : Nat → Nat → Option Loc
  ro : Nat → Prop
/-- A cell's value: no row of cells. -/
def AV.one : AV → Bool
  | .v x => x.oneCell'
  | .ptr .. | .sl .. | .vptr .. | .vsl .. | .fn .. | .ifc .. | .ub | .bsl .. | .bad .. | .usd .. => true
  | _ => false
inductive AR (σ : Sig) (w : World) : AV → Value → Prop
  | any (u : Value) : AR σ w .any u
  | v (x : Value) : AR σ w (.v x) x
  | ptr {b ver off : Nat} {l : Loc} (h : σ.ρ b ver = some l) : AR σ w (.ptr b ver off) (.pointer (some ⟨l.B, l.base + off, none⟩))
  | sl {b ver off len cap cap' sz : Nat} {x : Bool} {l : Loc} (h : σ.ρ b ver = some l) (hc : cap ≤ cap') (hx : x = true → cap' = cap) (hl : l.base + off + cap' * sz ≤ l.lim) :
      AR σ w (.sl b ver off len cap sz x) (.slice (some ⟨l.B, l.base + off, none⟩) len cap')
  | sl0 {b ver off sz : Nat} {x : Bool} (A : Option Addr) : AR σ w (.sl b ver off 0 0 sz x) (.slice A 0 0)
  | vptr {cs : List AV} {off : Nat} (B o : Nat) (u : Nat → Value) (hr : σ.ro B) (hm : ∀ j, j < cs.length → w.cell? ⟨B, o + j, none⟩ = some (u j)) (ha : ∀ j, j < cs.length → AR σ w (cs.getD j .any) (u j)) :
      AR σ w (.vptr cs off) (.pointer (some ⟨B, o + off, none⟩))
  | vsl {len : Nat} {cs : List AV} {cx : Option Nat} (B o cap' : Nat) (u : Nat → Value) (hr : σ.ro B) (hm : ∀ j, j < cs.length → w.cell? ⟨B, o + j, none⟩ = some (u j)) (ha : ∀ j, j < cs.length → AR σ w (cs.getD j .any) (u j))
      (hl : len ≤ cap') (hx : ∀ c, cx = some c → cap' = c) : AR σ w (.vsl len cs cx) (.slice (some ⟨B, o, none⟩) len cap')
  | vsl0 {cx : Option Nat} (A : Option Addr) (cap' : Nat) (hx : ∀ c, cx = some c → cap' = c) : AR σ w (.vsl 0 [] cx) (.slice A 0 cap')
  | agg {cs : List AV} (us : Array Value) (hl : us.size = cs.length) (ha : ∀ j, j < cs.length → AR σ w (cs.getD j .any) (us.getD j undef)) : AR σ w (.agg cs) (.agg us)
  | tup {cs : List AV} (us : Array Value) (hl : us.size = cs.length) (ha : ∀ j, j < cs.length → AR σ w (cs.getD j .any) (us.getD j undef)) : AR σ w (.tup cs) (.tuple us)
  | fn {f : Fn} {cs : List AV} (us : Array Value) (hl : us.size = cs.length) (ha : ∀ j, j < cs.length → AR σ w (cs.getD j .any) (us.getD j undef)) : AR σ w (.fn f cs) (.func f #[] us)
  | ifc {t : TypeId} {x : AV} {u : Value} (h : AR σ w x u) : AR σ w (.ifc t x) (.iface t u)
  | ub (b : Bool) : AR σ w .ub (.bool b)
  | bsl0 {b ver : Nat} : AR σ w (.bsl b ver 0) (.slice none 0 0)
  | bsl {b ver n cap' : Nat} {l : Loc} (h : σ.ρ b ver = some l) (h0 : 0 < cap') (hc : n ≤ cap') (hl : l.base + cap' ≤ l.lim) : AR σ w (.bsl b ver n) (.slice (some ⟨l.B, l.base, none⟩) n cap')
  | bad0 {b ver : Nat} : AR σ w (.bad b ver) (.pointer none)
  | usd0 {b ver : Nat} (p : Option Addr) : AR σ w (.usd b ver 0) (.pointer p)
  | usd {b ver n : Nat} {l : Loc} (h : σ.ρ b ver = some l) : AR σ w (.usd b ver n) (.pointer (some ⟨l.B, l.base, none⟩))
  | bad {b ver : Nat} {l : Loc} (h : σ.ρ b ver = some l) : AR σ w (.bad b ver) (.pointer (some ⟨l.B, l.base, none⟩))
theorem AR.mono {σ σ' : Sig} {w w' : World} (hρ : ∀ b ver l, σ.ρ b ver = some l → σ'.ρ b ver = some l) (hro : ∀ B, σ.ro B → σ'.ro B) (hw : ∀ B, σ.ro B → w'.heap[B]? = w.heap[B]?) {x : AV} {u : Value} (h : AR σ w x u) : AR σ' w' x u := by
  have hcell : ∀ B o, σ.ro B → w'.cell? ⟨B, o, none⟩ = w.cell? ⟨B, o, none⟩ := fun B o hB => World.cell?_of_block (hw B hB)
  induction h with
  | any u => exact .any u
  | v x => exact .v x
  | ptr h => exact .ptr (hρ _ _ _ h)
  | sl h hc hx hl => exact .sl (hρ _ _ _ h) hc hx hl
  | sl0 A => exact .sl0 A
  | vptr B o u hr hm _ ih => exact .vptr B o u (hro _ hr) (fun j hj => by rw [hcell _ _ hr]; exact hm j hj) ih
  | vsl B o cap' u hr hm _ hl hx ih => exact .vsl B o cap' u (hro _ hr) (fun j hj => by rw [hcell _ _ hr]; exact hm j hj) ih hl hx
  | vsl0 A cap' hx => exact .vsl0 A cap' hx
  | agg us hl _ ih => exact .agg us hl ih
  | tup us hl _ ih => exact .tup us hl ih
  | fn us hl _ ih => exact .fn us hl ih
  | ifc _ ih => exact .ifc ih
  | ub b => exact .ub b
  | bsl0 => exact .bsl0
  | bsl h h0 hc hl => exact .bsl (hρ _ _ _ h) h0 hc hl
  | usd0 p => exact .usd0 p
  | usd h => exact .usd (hρ _ _ _ h)
  | bad0 => exact .bad0
  | bad h => exact .bad (hρ _ _ _ h)
theorem AR.one {σ : Sig} {w : World} {x : AV} {u : Value} (h : AR σ w x u) (hx : x.one = true) : u.oneCell' = true := by
  cases h <;> first | rfl | (simp [AV.one] at hx; done) | exact hx
/-- A value without addresses of blocks that may be written. -/
def NR (x : AV) : Prop := ∀ (σ : Sig) (w : World) (u : Value), AR σ w x u → AR ⟨fun _ _ => none, σ.ro⟩ w x u
theorem NR.v (x : Value) : NR (.v x) := fun _ _ _ h => by cases h; exact .v _
theorem NR.any : NR .any := fun _ _ u _ => .any u
theorem NR.ub : NR .ub := fun _ _ u h => by cases h; exact .ub _
theorem NR.vsl {len : Nat} {cs : List AV} {cx : Option Nat} (h : ∀ c ∈ cs, NR c) : NR (.vsl len cs cx) := fun σ w u hu => by
  cases hu with
  | vsl B o cap' u hr hm ha hl hx => exact .vsl B o cap' u hr hm (fun j hj => h _ (by simp [List.getD_eq_getElem?_getD, hj]) _ _ _ (ha j hj)) hl hx
  | vsl0 A cap' hx => exact .vsl0 A cap' hx
theorem NR.vptr {cs : List AV} {off : Nat} (h : ∀ c ∈ cs, NR c) : NR (.vptr cs off) := fun σ w u hu => by
  cases hu with
  | vptr B o u hr hm ha => exact .vptr B o u hr hm (fun j hj => h _ (by simp [List.getD_eq_getElem?_getD, hj]) _ _ _ (ha j hj))
theorem NR.agg {cs : List AV} (h : ∀ c ∈ cs, NR c) : NR (.agg cs) := fun σ w u hu => by
  cases hu with
  | agg us hl ha => exact .agg us hl (fun j hj => h _ (by simp [List.getD_eq_getElem?_getD, hj]) _ _ _ (ha j hj))
theorem NR.tup {cs : List AV} (h : ∀ c ∈ cs, NR c) : NR (.tup cs) := fun σ w u hu => by
  cases hu with
  | tup us hl ha => exact .tup us hl (fun j hj => h _ (by simp [List.getD_eq_getElem?_getD, hj]) _ _ _ (ha j hj))
theorem NR.fn {f : Fn} {cs : List AV} (h : ∀ c ∈ cs, NR c) : NR (.fn f cs) := fun σ w u hu => by
  cases hu with
  | fn us hl ha => exact .fn us hl (fun j hj => h _ (by simp [List.getD_eq_getElem?_getD, hj]) _ _ _ (ha j hj))
theorem NR.ifc {t : TypeId} {x : AV} (h : NR x) : NR (.ifc t x) := fun σ w u hu => by
  cases hu with
  | ifc hu => exact .ifc (h _ _ _ hu)
/-- A block of the small heap. -/
structure Blk where
  cells : List AV
  ver : Nat
  live : Bool
  elem : TypeId
abbrev AHeap := List Blk
/-- What is known of the package-level variables. -/
abbrev Glob := Nat → AV
structure Rel (G : Glob) (σ : Sig) (H : AHeap) (w : World) : Prop where
  blk : ∀ b k l, H[b]? = some k → k.live = true → σ.ρ b k.ver = some l → ∃ C fr, w.heap[l.B]? = some (.cells C k.elem fr) ∧ C.size = l.lim ∧ l.base + k.cells.length ≤ l.lim ∧ (l.lim ≤ fr.1 ∨ fr.1 = fr.2) ∧
    ∀ j, j < k.cells.length → ∃ u, C[l.base + j]? = some u ∧ AR σ w (k.cells.getD j .any) u
  inj : ∀ b1 b2 k1 k2 l1 l2, H[b1]? = some k1 → k1.live = true → σ.ρ b1 k1.ver = some l1 → H[b2]? = some k2 → k2.live = true → σ.ρ b2 k2.ver = some l2 → l1.B = l2.B → b1 = b2
  apart : ∀ b k l, H[b]? = some k → k.live = true → σ.ρ b k.ver = some l → ¬ σ.ro l.B
  roLt : ∀ B, σ.ro B → B < w.heap.size
  fresh : ∀ b ver l, σ.ρ b ver = some l → ∃ k, H[b]? = some k ∧ ver ≤ k.ver
  glob : ∀ g, AR σ w (G g) (.pointer (some ⟨g, 0, none⟩))
  base0 : ∀ b ver l, σ.ρ b ver = some l → l.base = 0
/-- The block lies among those that may be written. -/
def Img (σ : Sig) (H : AHeap) (B : Nat) : Prop := ∃ b k l, H[b]? = some k ∧ k.live = true ∧ σ.ρ b k.ver = some l ∧ l.B = B
/-- How memory, and the view of it, may go on. -/
structure Ext (σ : Sig) (H : AHeap) (w : World) (σ' : Sig) (H' : AHeap) (w' : World) : Prop where
  os : w'.os = w.os
  tape : w'.tape = w.tape
  output : w'.output = w.output
  size : w.heap.size ≤ w'.heap.size
  ρ : ∀ b ver l, σ.ρ b ver = some l → σ'.ρ b ver = some l
  ro : ∀ B, σ.ro B → σ'.ro B
  frame : ∀ B, B < w.heap.size → ¬ Img σ H B → w'.heap[B]? = w.heap[B]?
  new : ∀ b ver l, σ'.ρ b ver = some l → σ.ρ b ver = some l ∨ w.heap.size ≤ l.B ∨ Img σ H l.B
  stay : ∀ b k' l, H'[b]? = some k' → k'.live = true → σ.ρ b k'.ver = some l → ∃ k, H[b]? = some k ∧ k.live = true ∧ k.ver = k'.ver
  roNew : ∀ B, σ'.ro B → σ.ro B ∨ w.heap.size ≤ B ∨ Img σ H B
  len : H.length ≤ H'.length
theorem Ext.refl (σ : Sig) (H : AHeap) (w : World) : Ext σ H w σ H w :=
  ⟨rfl, rfl, rfl, Nat.le_refl _, fun _ _ _ h => h, fun _ h => h, fun _ _ _ => rfl, fun _ _ _ h => .inl h, fun b k' l h h1 _ => ⟨k', h, h1, rfl⟩, fun _ h => .inl h, Nat.le_refl _⟩
variable {G : Glob} {σ σ1 σ2 : Sig} {H H1 H2 : AHeap} {w w1 w2 : World}
/-- What may be written now could be written then, or is new. -/
theorem Ext.img (h : Ext σ H w σ1 H1 w1) {B : Nat} (hB : Img σ1 H1 B) : w.heap.size ≤ B ∨ Img σ H B := by
  obtain ⟨b, k, l, h1, h2, h3, rfl⟩ := hB
  rcases h.new _ _ _ h3 with h4 | h4 | h4
  · obtain ⟨k0, a1, a2, a3⟩ := h.stay _ _ _ h1 h2 h4
    exact .inr ⟨b, k0, l, a1, a2, by rw [a3]; exact h4, rfl⟩
  · exact .inl h4
  · exact .inr h4
theorem Ext.trans (h : Ext σ H w σ1 H1 w1) (g : Ext σ1 H1 w1 σ2 H2 w2) : Ext σ H w σ2 H2 w2 where
  os := g.os.trans h.os
  tape := g.tape.trans h.tape
  output := g.output.trans h.output
  size := Nat.le_trans h.size g.size
  ρ := fun b ver l hl => g.ρ _ _ _ (h.ρ _ _ _ hl)
  ro := fun B hB => g.ro _ (h.ro _ hB)
  frame := fun B hB hn => (g.frame B (Nat.lt_of_lt_of_le hB h.size) (fun hi => (h.img hi).elim (fun h' => by omega) hn)).trans (h.frame B hB hn)
  new := fun b ver l hl => by
    rcases g.new _ _ _ hl with h1 | h1 | h1
    · exact h.new _ _ _ h1
    · exact .inr (.inl (Nat.le_trans h.size h1))
    · exact .inr (h.img h1)
  stay := fun b k' l h1 h2 h3 => by
    obtain ⟨k1, a1, a2, a3⟩ := g.stay _ _ _ h1 h2 (h.ρ _ _ _ h3)
    obtain ⟨k0, c1, c2, c3⟩ := h.stay _ _ _ a1 a2 (by rw [a3]; exact h3)
    exact ⟨k0, c1, c2, c3.trans a3⟩
  roNew := fun B hB => by
    rcases g.roNew _ hB with h1 | h1 | h1
    · exact h.roNew _ h1
    · exact .inr (.inl (Nat.le_trans h.size h1))
    · exact .inr (h.img h1)
  len := Nat.le_trans h.len g.len
theorem Rel.roKept (r : Rel G σ H w) (h : Ext σ H w σ1 H1 w1) : ∀ B, σ.ro B → w1.heap[B]? = w.heap[B]? := fun B hB =>
  h.frame B (r.roLt _ hB) (fun ⟨_, _, _, h1, h2, h3, e⟩ => r.apart _ _ _ h1 h2 h3 (e ▸ hB))
theorem AR.ext {x : AV} {u : Value} (hu : AR σ w x u) (r : Rel G σ H w) (h : Ext σ H w σ1 H1 w1) : AR σ1 w1 x u := hu.mono h.ρ h.ro (r.roKept h)
/-- The heap's end is a new place. -/
theorem Rel.free (r : Rel G σ H w) (ver : Nat) : σ.ρ H.length ver = none := by
  cases h : σ.ρ H.length ver with
  | none => rfl
  | some l =>
    obtain ⟨k, hk, _⟩ := r.fresh _ _ _ h
    simp at hk
/-- A new version is a new place. -/
theorem Rel.later (r : Rel G σ H w) {b : Nat} {k : Blk} (hk : H[b]? = some k) {ver : Nat} (h : k.ver < ver) : σ.ρ b ver = none := by
  cases h' : σ.ρ b ver with
  | none => rfl
  | some l =>
    obtain ⟨k', hk', hl⟩ := r.fresh _ _ _ h'
    rw [hk] at hk'
    cases hk'
    omega
/-- A block's place lies in the heap. -/
theorem Rel.lt (r : Rel G σ H w) {b : Nat} {k : Blk} {l : Loc} (hk : H[b]? = some k) (h1 : k.live = true) (h2 : σ.ρ b k.ver = some l) : l.B < w.heap.size := by
  obtain ⟨C, fr, h, _⟩ := r.blk _ _ _ hk h1 h2
  exact (Array.getElem?_eq_some_iff.1 h).1
/-- The draws: nothing that is seen here turns. -/
theorem AR.drew {x : AV} {u : Value} {w' : World} (hw : w'.heap = w.heap) (h : AR σ w x u) : AR σ w' x u := h.mono (fun _ _ _ h => h) (fun _ h => h) (fun _ _ => by rw [hw])
theorem Rel.drew {w' : World} (hw : w'.heap = w.heap) (r : Rel G σ H w) : Rel G σ H w' := by
  refine ⟨fun b k l h1 h2 h3 => ?_, r.inj, r.apart, fun B hB => by rw [hw]; exact r.roLt B hB, r.fresh, fun g => (r.glob g).drew hw, r.base0⟩
  obtain ⟨C, fr, a, b1, c, d, e⟩ := r.blk b k l h1 h2 h3
  refine ⟨C, fr, by rw [hw]; exact a, b1, c, d, fun j hj => ?_⟩
  obtain ⟨u, e1, e2⟩ := e j hj
  exact ⟨u, e1, e2.drew hw⟩
theorem Ext.drew {w' : World} (hw : w'.heap = w.heap) (ho : w'.os = w.os) (ht : w'.tape = w.tape) (hp : w'.output = w.output) : Ext σ H w σ H w' :=
  ⟨ho, ht, hp, by rw [hw]; exact Nat.le_refl _, fun _ _ _ h => h, fun _ h => h, fun _ _ _ => by rw [hw], fun _ _ _ h => .inl h, fun b k' l h h1 _ => ⟨k', h, h1, rfl⟩, fun _ h => .inl h, Nat.le_refl _⟩
end Go.Abs
