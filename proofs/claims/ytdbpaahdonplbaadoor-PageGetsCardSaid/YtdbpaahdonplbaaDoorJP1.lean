/- A second view of memory: values by what they hold, a small heap of the blocks that a call itself may write; how it stands to the machine's memory. What each operation does to the second view of memory -/
import Derived.Calls
import Derived.Tactics
import Derived.Below
import Derived.Laws.Entries
import Derived.Laws.Append
import Derived.Laws.CopyRow
import Derived.Laws.Cells
import Derived.Laws.Build
import Derived.Laws.BytesString
import Derived.Laws.MakeOwn
import Derived.Laws.Small
import Derived.Laws.Pointers
import Derived.WalkSpells
import Derived.LaidEqlPtr
import Derived.WideLaws
import Derived.Laws.Tables
import Derived.Lib.UnsafeStr
import Derived.Orders
namespace Go.Abs
set_option linter.unusedVariables false
/-- A value, by what it holds. -/
inductive AV where
  | any
  | v (x : Value)
  | ptr (b ver off : Nat)
  | sl (b ver off len cap sz : Nat) (x : Bool)
  | vptr (cs : List AV) (off : Nat)
  | vsl (len : Nat) (cs : List AV) (cx : Option Nat)
  | agg (cs : List AV)
  | tup (cs : List AV)
  | fn (f : Fn) (caps : List AV)
  | ifc (t : TypeId) (x : AV)
  | ub
  | bsl (b ver n : Nat)
  | bad (b ver : Nat)
  | usd (b ver n : Nat)
  deriving Inhabited
/-- Where a block lies in the machine. -/
structure Loc where
  B : Nat
  base : Nat
  lim : Nat
structure Sig where
  ρ : Nat → Nat → Option Loc
  ro : Nat → Prop
/-- A cell's value: no row of cells. -/
def AV.one : AV → Bool
  | .v x => x.oneCell'
  | .ptr .. | .sl .. | .vptr .. | .vsl .. | .fn .. | .ifc .. | .ub | .bsl .. | .bad .. | .usd .. => true
  | _ => false
inductive AR (σ : Sig) (w : World) : AV → Value → Prop
  | any (u : Value) : AR σ w .any u
  | v (x : Value) : AR σ w (.v x) x
  | ptr {b ver off : Nat} {l : Loc} (h : σ.ρ b ver = some l) : AR σ w (.ptr b ver off) (.pointer (some ⟨l.B, l.base + off, none⟩))
  | sl {b ver off len cap cap' sz : Nat} {x : Bool} {l : Loc} (h : σ.ρ b ver = some l) (hc : cap ≤ cap') (hx : x = true → cap' = cap) (hl : l.base + off + cap' * sz ≤ l.lim) :
      AR σ w (.sl b ver off len cap sz x) (.slice (some ⟨l.B, l.base + off, none⟩) len cap')
  | sl0 {b ver off sz : Nat} {x : Bool} (A : Option Addr) : AR σ w (.sl b ver off 0 0 sz x) (.slice A 0 0)
  | vptr {cs : List AV} {off : Nat} (B o : Nat) (u : Nat → Value) (hr : σ.ro B) (hm : ∀ j, j < cs.length → w.cell? ⟨B, o + j, none⟩ = some (u j)) (ha : ∀ j, j < cs.length → AR σ w (cs.getD j .any) (u j)) :
      AR σ w (.vptr cs off) (.pointer (some ⟨B, o + off, none⟩))
  | vsl {len : Nat} {cs : List AV} {cx : Option Nat} (B o cap' : Nat) (u : Nat → Value) (hr : σ.ro B) (hm : ∀ j, j < cs.length → w.cell? ⟨B, o + j, none⟩ = some (u j)) (ha : ∀ j, j < cs.length → AR σ w (cs.getD j .any) (u j))
      (hl : len ≤ cap') (hx : ∀ c, cx = some c → cap' = c) : AR σ w (.vsl len cs cx) (.slice (some ⟨B, o, none⟩) len cap')
  | vsl0 {cx : Option Nat} (A : Option Addr) (cap' : Nat) (hx : ∀ c, cx = some c → cap' = c) : AR σ w (.vsl 0 [] cx) (.slice A 0 cap')
  | agg {cs : List AV} (us : Array Value) (hl : us.size = cs.length) (ha : ∀ j, j < cs.length → AR σ w (cs.getD j .any) (us.getD j undef)) : AR σ w (.agg cs) (.agg us)
  | tup {cs : List AV} (us : Array Value) (hl : us.size = cs.length) (ha : ∀ j, j < cs.length → AR σ w (cs.getD j .any) (us.getD j undef)) : AR σ w (.tup cs) (.tuple us)
  | fn {f : Fn} {cs : List AV} (us : Array Value) (hl : us.size = cs.length) (ha : ∀ j, j < cs.length → AR σ w (cs.getD j .any) (us.getD j undef)) : AR σ w (.fn f cs) (.func f #[] us)
  | ifc {t : TypeId} {x : AV} {u : Value} (h : AR σ w x u) : AR σ w (.ifc t x) (.iface t u)
  | ub (b : Bool) : AR σ w .ub (.bool b)
  | bsl0 {b ver : Nat} : AR σ w (.bsl b ver 0) (.slice none 0 0)
  | bsl {b ver n cap' : Nat} {l : Loc} (h : σ.ρ b ver = some l) (h0 : 0 < cap') (hc : n ≤ cap') (hl : l.base + cap' ≤ l.lim) : AR σ w (.bsl b ver n) (.slice (some ⟨l.B, l.base, none⟩) n cap')
  | bad0 {b ver : Nat} : AR σ w (.bad b ver) (.pointer none)
  | usd0 {b ver : Nat} (p : Option Addr) : AR σ w (.usd b ver 0) (.pointer p)
  | usd {b ver n : Nat} {l : Loc} (h : σ.ρ b ver = some l) : AR σ w (.usd b ver n) (.pointer (some ⟨l.B, l.base, none⟩))
  | bad {b ver : Nat} {l : Loc} (h : σ.ρ b ver = some l) : AR σ w (.bad b ver) (.pointer (some ⟨l.B, l.base, none⟩))
theorem AR.mono {σ σ' : Sig} {w w' : World} (hρ : ∀ b ver l, σ.ρ b ver = some l → σ'.ρ b ver = some l) (hro : ∀ B, σ.ro B → σ'.ro B) (hw : ∀ B, σ.ro B → w'.heap[B]? = w.heap[B]?) {x : AV} {u : Value} (h : AR σ w x u) : AR σ' w' x u := by
  have hcell : ∀ B o, σ.ro B → w'.cell? ⟨B, o, none⟩ = w.cell? ⟨B, o, none⟩ := fun B o hB => World.cell?_of_block (hw B hB)
  induction h with
  | any u => exact .any u
  | v x => exact .v x
  | ptr h => exact .ptr (hρ _ _ _ h)
  | sl h hc hx hl => exact .sl (hρ _ _ _ h) hc hx hl
  | sl0 A => exact .sl0 A
  | vptr B o u hr hm _ ih => exact .vptr B o u (hro _ hr) (fun j hj => by rw [hcell _ _ hr]; exact hm j hj) ih
  | vsl B o cap' u hr hm _ hl hx ih => exact .vsl B o cap' u (hro _ hr) (fun j hj => by rw [hcell _ _ hr]; exact hm j hj) ih hl hx
  | vsl0 A cap' hx => exact .vsl0 A cap' hx
  | agg us hl _ ih => exact .agg us hl ih
  | tup us hl _ ih => exact .tup us hl ih
  | fn us hl _ ih => exact .fn us hl ih
  | ifc _ ih => exact .ifc ih
  | ub b => exact .ub b
  | bsl0 => exact .bsl0
  | bsl h h0 hc hl => exact .bsl (hρ _ _ _ h) h0 hc hl
  | usd0 p => exact .usd0 p
  | usd h => exact .usd (hρ _ _ _ h)
  | bad0 => exact .bad0
  | bad h => exact .bad (hρ _ _ _ h)
theorem AR.one {σ : Sig} {w : World} {x : AV} {u : Value} (h : AR σ w x u) (hx : x.one = true) : u.oneCell' = true := by
  cases h <;> first | rfl | (simp [AV.one] at hx; done) | exact hx
/-- A value without addresses of blocks that may be written. -/
def NR (x : AV) : Prop := ∀ (σ : Sig) (w : World) (u : Value), AR σ w x u → AR ⟨fun _ _ => none, σ.ro⟩ w x u
theorem NR.v (x : Value) : NR (.v x) := fun _ _ _ h => by cases h; exact .v _
theorem NR.any : NR .any := fun _ _ u _ => .any u
theorem NR.ub : NR .ub := fun _ _ u h => by cases h; exact .ub _
theorem NR.vsl {len : Nat} {cs : List AV} {cx : Option Nat} (h : ∀ c ∈ cs, NR c) : NR (.vsl len cs cx) := fun σ w u hu => by
  cases hu with
  | vsl B o cap' u hr hm ha hl hx => exact .vsl B o cap' u hr hm (fun j hj => h _ (by simp [List.getD_eq_getElem?_getD, hj]) _ _ _ (ha j hj)) hl hx
  | vsl0 A cap' hx => exact .vsl0 A cap' hx
theorem NR.vptr {cs : List AV} {off : Nat} (h : ∀ c ∈ cs, NR c) : NR (.vptr cs off) := fun σ w u hu => by
  cases hu with
  | vptr B o u hr hm ha => exact .vptr B o u hr hm (fun j hj => h _ (by simp [List.getD_eq_getElem?_getD, hj]) _ _ _ (ha j hj))
theorem NR.agg {cs : List AV} (h : ∀ c ∈ cs, NR c) : NR (.agg cs) := fun σ w u hu => by
  cases hu with
  | agg us hl ha => exact .agg us hl (fun j hj => h _ (by simp [List.getD_eq_getElem?_getD, hj]) _ _ _ (ha j hj))
theorem NR.tup {cs : List AV} (h : ∀ c ∈ cs, NR c) : NR (.tup cs) := fun σ w u hu => by
  cases hu with
  | tup us hl ha => exact .tup us hl (fun j hj => h _ (by simp [List.getD_eq_getElem?_getD, hj]) _ _ _ (ha j hj))
theorem NR.fn {f : Fn} {cs : List AV} (h : ∀ c ∈ cs, NR c) : NR (.fn f cs) := fun σ w u hu => by
  cases hu with
  | fn us hl ha => exact .fn us hl (fun j hj => h _ (by simp [List.getD_eq_getElem?_getD, hj]) _ _ _ (ha j hj))
theorem NR.ifc {t : TypeId} {x : AV} (h : NR x) : NR (.ifc t x) := fun σ w u hu => by
  cases hu with
  | ifc hu => exact .ifc (h _ _ _ hu)
/-- A block of the small heap. -/
structure Blk where
  cells : List AV
  ver : Nat
  live : Bool
  elem : TypeId
abbrev AHeap := List Blk
/-- What is known of the package-level variables. -/
abbrev Glob := Nat → AV
structure Rel (G : Glob) (σ : Sig) (H : AHeap) (w : World) : Prop where
  blk : ∀ b k l, H[b]? = some k → k.live = true → σ.ρ b k.ver = some l → ∃ C fr, w.heap[l.B]? = some (.cells C k.elem fr) ∧ C.size = l.lim ∧ l.base + k.cells.length ≤ l.lim ∧ (l.lim ≤ fr.1 ∨ fr.1 = fr.2) ∧
    ∀ j, j < k.cells.length → ∃ u, C[l.base + j]? = some u ∧ AR σ w (k.cells.getD j .any) u
  inj : ∀ b1 b2 k1 k2 l1 l2, H[b1]? = some k1 → k1.live = true → σ.ρ b1 k1.ver = some l1 → H[b2]? = some k2 → k2.live = true → σ.ρ b2 k2.ver = some l2 → l1.B = l2.B → b1 = b2
  apart : ∀ b k l, H[b]? = some k → k.live = true → σ.ρ b k.ver = some l → ¬ σ.ro l.B
  roLt : ∀ B, σ.ro B → B < w.heap.size
  fresh : ∀ b ver l, σ.ρ b ver = some l → ∃ k, H[b]? = some k ∧ ver ≤ k.ver
  glob : ∀ g, AR σ w (G g) (.pointer (some ⟨g, 0, none⟩))
  base0 : ∀ b ver l, σ.ρ b ver = some l → l.base = 0
/-- The block lies among those that may be written. -/
def Img (σ : Sig) (H : AHeap) (B : Nat) : Prop := ∃ b k l, H[b]? = some k ∧ k.live = true ∧ σ.ρ b k.ver = some l ∧ l.B = B
/-- How memory, and the view of it, may go on. -/
structure Ext (σ : Sig) (H : AHeap) (w : World) (σ' : Sig) (H' : AHeap) (w' : World) : Prop where
  os : w'.os = w.os
  tape : w'.tape = w.tape
  output : w'.output = w.output
  size : w.heap.size ≤ w'.heap.size
  ρ : ∀ b ver l, σ.ρ b ver = some l → σ'.ρ b ver = some l
  ro : ∀ B, σ.ro B → σ'.ro B
  frame : ∀ B, B < w.heap.size → ¬ Img σ H B → w'.heap[B]? = w.heap[B]?
  new : ∀ b ver l, σ'.ρ b ver = some l → σ.ρ b ver = some l ∨ w.heap.size ≤ l.B ∨ Img σ H l.B
  stay : ∀ b k' l, H'[b]? = some k' → k'.live = true → σ.ρ b k'.ver = some l → ∃ k, H[b]? = some k ∧ k.live = true ∧ k.ver = k'.ver
  roNew : ∀ B, σ'.ro B → σ.ro B ∨ w.heap.size ≤ B ∨ Img σ H B
  len : H.length ≤ H'.length
theorem Ext.refl (σ : Sig) (H : AHeap) (w : World) : Ext σ H w σ H w :=
  ⟨rfl, rfl, rfl, Nat.le_refl _, fun _ _ _ h => h, fun _ h => h, fun _ _ _ => rfl, fun _ _ _ h => .inl h, fun b k' l h h1 _ => ⟨k', h, h1, rfl⟩, fun _ h => .inl h, Nat.le_refl _⟩
variable {G : Glob} {σ σ1 σ2 : Sig} {H H1 H2 : AHeap} {w w1 w2 : World}
/-- What may be written now could be written then, or is new. -/
theorem Ext.img (h : Ext σ H w σ1 H1 w1) {B : Nat} (hB : Img σ1 H1 B) : w.heap.size ≤ B ∨ Img σ H B := by
  obtain ⟨b, k, l, h1, h2, h3, rfl⟩ := hB
  rcases h.new _ _ _ h3 with h4 | h4 | h4
  · obtain ⟨k0, a1, a2, a3⟩ := h.stay _ _ _ h1 h2 h4
    exact .inr ⟨b, k0, l, a1, a2, by rw [a3]; exact h4, rfl⟩
  · exact .inl h4
  · exact .inr h4
theorem Ext.trans (h : Ext σ H w σ1 H1 w1) (g : Ext σ1 H1 w1 σ2 H2 w2) : Ext σ H w σ2 H2 w2 where
  os := g.os.trans h.os
  tape := g.tape.trans h.tape
  output := g.output.trans h.output
  size := Nat.le_trans h.size g.size
  ρ := fun b ver l hl => g.ρ _ _ _ (h.ρ _ _ _ hl)
  ro := fun B hB => g.ro _ (h.ro _ hB)
  frame := fun B hB hn => (g.frame B (Nat.lt_of_lt_of_le hB h.size) (fun hi => (h.img hi).elim (fun h' => by omega) hn)).trans (h.frame B hB hn)
  new := fun b ver l hl => by
    rcases g.new _ _ _ hl with h1 | h1 | h1
    · exact h.new _ _ _ h1
    · exact .inr (.inl (Nat.le_trans h.size h1))
    · exact .inr (h.img h1)
  stay := fun b k' l h1 h2 h3 => by
    obtain ⟨k1, a1, a2, a3⟩ := g.stay _ _ _ h1 h2 (h.ρ _ _ _ h3)
    obtain ⟨k0, c1, c2, c3⟩ := h.stay _ _ _ a1 a2 (by rw [a3]; exact h3)
    exact ⟨k0, c1, c2, c3.trans a3⟩
  roNew := fun B hB => by
    rcases g.roNew _ hB with h1 | h1 | h1
    · exact h.roNew _ h1
    · exact .inr (.inl (Nat.le_trans h.size h1))
    · exact .inr (h.img h1)
  len := Nat.le_trans h.len g.len
theorem Rel.roKept (r : Rel G σ H w) (h : Ext σ H w σ1 H1 w1) : ∀ B, σ.ro B → w1.heap[B]? = w.heap[B]? := fun B hB =>
  h.frame B (r.roLt _ hB) (fun ⟨_, _, _, h1, h2, h3, e⟩ => r.apart _ _ _ h1 h2 h3 (e ▸ hB))
theorem AR.ext {x : AV} {u : Value} (hu : AR σ w x u) (r : Rel G σ H w) (h : Ext σ H w σ1 H1 w1) : AR σ1 w1 x u := hu.mono h.ρ h.ro (r.roKept h)
/-- The heap's end is a new place. -/
theorem Rel.free (r : Rel G σ H w) (ver : Nat) : σ.ρ H.length ver = none := by
  cases h : σ.ρ H.length ver with
  | none => rfl
  | some l =>
    obtain ⟨k, hk, _⟩ := r.fresh _ _ _ h
    simp at hk
/-- A new version is a new place. -/
theorem Rel.later (r : Rel G σ H w) {b : Nat} {k : Blk} (hk : H[b]? = some k) {ver : Nat} (h : k.ver < ver) : σ.ρ b ver = none := by
  cases h' : σ.ρ b ver with
  | none => rfl
  | some l =>
    obtain ⟨k', hk', hl⟩ := r.fresh _ _ _ h'
    rw [hk] at hk'
    cases hk'
    omega
/-- A block's place lies in the heap. -/
theorem Rel.lt (r : Rel G σ H w) {b : Nat} {k : Blk} {l : Loc} (hk : H[b]? = some k) (h1 : k.live = true) (h2 : σ.ρ b k.ver = some l) : l.B < w.heap.size := by
  obtain ⟨C, fr, h, _⟩ := r.blk _ _ _ hk h1 h2
  exact (Array.getElem?_eq_some_iff.1 h).1
/-- The draws: nothing that is seen here turns. -/
theorem AR.drew {x : AV} {u : Value} {w' : World} (hw : w'.heap = w.heap) (h : AR σ w x u) : AR σ w' x u := h.mono (fun _ _ _ h => h) (fun _ h => h) (fun _ _ => by rw [hw])
theorem Rel.drew {w' : World} (hw : w'.heap = w.heap) (r : Rel G σ H w) : Rel G σ H w' := by
  refine ⟨fun b k l h1 h2 h3 => ?_, r.inj, r.apart, fun B hB => by rw [hw]; exact r.roLt B hB, r.fresh, fun g => (r.glob g).drew hw, r.base0⟩
  obtain ⟨C, fr, a, b1, c, d, e⟩ := r.blk b k l h1 h2 h3
  refine ⟨C, fr, by rw [hw]; exact a, b1, c, d, fun j hj => ?_⟩
  obtain ⟨u, e1, e2⟩ := e j hj
  exact ⟨u, e1, e2.drew hw⟩
theorem Ext.drew {w' : World} (hw : w'.heap = w.heap) (ho : w'.os = w.os) (ht : w'.tape = w.tape) (hp : w'.output = w.output) : Ext σ H w σ H w' :=
  ⟨ho, ht, hp, by rw [hw]; exact Nat.le_refl _, fun _ _ _ h => h, fun _ h => h, fun _ _ _ => by rw [hw], fun _ _ _ h => .inl h, fun b k' l h h1 _ => ⟨k', h, h1, rfl⟩, fun _ h => .inl h, Nat.le_refl _⟩
end Go.Abs
namespace Go.Abs
set_option linter.unusedVariables false
set_option linter.unusedSimpArgs false
variable {P : Program} {G : Glob} {σ : Sig} {H : AHeap} {w : World}
/-- Nothing that was there has turned. -/
inductive Alike : Option Obj → Option Obj → Prop
  | same {o o' : Option Obj} (h : o' = o) : Alike o o'
  | marked {C : Array Value} {T : TypeId} (fr fr' : Nat × Nat) (h : (C.size ≤ fr.1 ∨ fr.1 = fr.2) → C.size ≤ fr'.1 ∨ fr'.1 = fr'.2) : Alike (some (.cells C T fr)) (some (.cells C T fr'))
structure Quiet (σ : Sig) (H : AHeap) (w : World) (σ' : Sig) (w' : World) : Prop where
  heap : ∀ B, B < w.heap.size → Alike w.heap[B]? w'.heap[B]?
  keys : ∀ b ver l, σ'.ρ b ver = some l → σ.ρ b ver = some l ∨ H.length ≤ b
theorem Quiet.refl (σ : Sig) (H : AHeap) (w : World) : Quiet σ H w σ w := ⟨fun _ _ => .same rfl, fun _ _ _ h => .inl h⟩
theorem push_keys {σ : Sig} {H : AHeap} {l0 : Loc} : ∀ b ver l, (if b = H.length ∧ ver = 0 then some l0 else σ.ρ b ver) = some l → σ.ρ b ver = some l ∨ H.length ≤ b := by
  intro b ver l h
  split at h
  · rename_i e
    exact .inr (by omega)
  · exact .inl h
/-- What an operation comes to: its value, the heap behind it; q: nothing that was there has turned. -/
def Res (G : Glob) (q : Bool) (σ : Sig) (H : AHeap) (w : World) (r : AV) (H' : AHeap) (u : Value) (w' : World) : Prop :=
  ∃ σ', AR σ' w' r u ∧ Rel G σ' H' w' ∧ Ext σ H w σ' H' w' ∧ (q = true → Quiet σ H w σ' w')
theorem Res.same {q : Bool} (r : Rel G σ H w) {x : AV} {u : Value} (h : AR σ w x u) : Res G q σ H w x H u w := ⟨σ, h, r, Ext.refl _ _ _, fun _ => Quiet.refl _ _ _⟩
/-- A new block. -/
theorem Rel.push (r : Rel G σ H w) (cs : List AV) (C : Array Value) (T : TypeId) (fr : Nat × Nat) (hfr : C.size ≤ fr.1 ∨ fr.1 = fr.2) (hl : cs.length ≤ C.size) (hc : ∀ j, j < cs.length → AR σ w (cs.getD j .any) (C.getD j undef)) :
    let σ' : Sig := ⟨fun b ver => if b = H.length ∧ ver = 0 then some ⟨w.heap.size, 0, C.size⟩ else σ.ρ b ver, σ.ro⟩
    Rel G σ' (H ++ [⟨cs, 0, true, T⟩]) (w.alloc (.cells C T fr)) ∧ Ext σ H w σ' (H ++ [⟨cs, 0, true, T⟩]) (w.alloc (.cells C T fr)) ∧
      (∀ x u, AR σ w x u → AR σ' (w.alloc (.cells C T fr)) x u) := by
  intro σ'
  have hold : ∀ B, B < w.heap.size → (w.alloc (.cells C T fr)).heap[B]? = w.heap[B]? := fun B hB => RowKit.Below.heap_alloc _ _ _ hB
  have hρ : ∀ b ver l, σ.ρ b ver = some l → σ'.ρ b ver = some l := fun b ver l h => by
    simp only [σ']
    rw [if_neg]
    · exact h
    · rintro ⟨rfl, rfl⟩
      rw [r.free] at h
      cases h
  have hm : ∀ x u, AR σ w x u → AR σ' (w.alloc (.cells C T fr)) x u := fun x u h => h.mono hρ (fun _ h => h) (fun B hB => hold B (r.roLt B hB))
  have hget : ∀ b k, (H ++ [⟨cs, 0, true, T⟩] : AHeap)[b]? = some k → (H[b]? = some k ∧ b < H.length) ∨ (b = H.length ∧ k = ⟨cs, 0, true, T⟩) := by
    intro b k h
    rw [List.getElem?_append] at h
    split at h
    · exact .inl ⟨h, by assumption⟩
    · right
      have : b = H.length := by
        rcases Nat.lt_or_ge (b - H.length) 1 with h1 | h1
        · omega
        · rw [List.getElem?_eq_none (by simpa using h1)] at h
          cases h
      subst this
      simp at h
      exact ⟨rfl, h.symm⟩
  have hk : ∀ b k l, H[b]? = some k → b < H.length → σ'.ρ b k.ver = some l → σ.ρ b k.ver = some l := fun b k l _ hb h => by
    simp only [σ'] at h
    rwa [if_neg (by omega)] at h
  have hn : ∀ l, σ'.ρ H.length 0 = some l → l = ⟨w.heap.size, 0, C.size⟩ := fun l h => by
    simp only [σ'] at h
    simp at h
    exact h.symm
  refine ⟨⟨?_, ?_, ?_, ?_, ?_, fun g => hm _ _ (r.glob g), fun b ver l h => ?b0⟩, ⟨rfl, rfl, rfl, by simp, hρ, fun _ h => h, fun B hB _ => hold B hB, ?_, ?_, fun _ h => .inl h, by simp⟩, hm⟩
  case b0 =>
    simp only [σ'] at h
    split at h
    · cases h; rfl
    · exact r.base0 b ver l h
  · intro b k l h1 h2 h3
    rcases hget b k h1 with ⟨h4, h5⟩ | ⟨rfl, rfl⟩
    · obtain ⟨C0, fr0, a1, a2, a3, a4, a5⟩ := r.blk b k l h4 h2 (hk _ _ _ h4 h5 h3)
      refine ⟨C0, fr0, by rw [hold _ (Array.getElem?_eq_some_iff.1 a1).1]; exact a1, a2, a3, a4, fun j hj => ?_⟩
      obtain ⟨u, b1, b2⟩ := a5 j hj
      exact ⟨u, b1, hm _ _ b2⟩
    · obtain rfl := hn l h3
      refine ⟨C, fr, heap_alloc_new w _, rfl, by simpa using hl, hfr, fun j hj => ⟨C.getD j undef, ?_, hm _ _ (hc j hj)⟩⟩
      have : j < C.size := Nat.lt_of_lt_of_le hj hl
      simp [this]
  · intro b1 b2 k1 k2 l1 l2 h1 h2 h3 g1 g2 g3 e
    rcases hget b1 k1 h1 with ⟨h4, h5⟩ | ⟨rfl, rfl⟩ <;> rcases hget b2 k2 g1 with ⟨g4, g5⟩ | ⟨rfl, rfl⟩
    · exact r.inj b1 b2 k1 k2 l1 l2 h4 h2 (hk _ _ _ h4 h5 h3) g4 g2 (hk _ _ _ g4 g5 g3) e
    · have := r.lt h4 h2 (hk _ _ _ h4 h5 h3)
      obtain rfl := hn l2 g3
      simp only at e
      omega
    · have := r.lt g4 g2 (hk _ _ _ g4 g5 g3)
      obtain rfl := hn l1 h3
      simp only at e
      omega
    · rfl
  · intro b k l h1 h2 h3 hro
    rcases hget b k h1 with ⟨h4, h5⟩ | ⟨rfl, rfl⟩
    · exact r.apart b k l h4 h2 (hk _ _ _ h4 h5 h3) hro
    · obtain rfl := hn l h3
      have := r.roLt _ hro
      simp only at this
      omega
  · intro B hB
    have := r.roLt B hB
    simp
    omega
  · intro b ver l h
    simp only [σ'] at h
    split at h
    · rename_i e
      obtain ⟨rfl, rfl⟩ := e
      exact ⟨⟨cs, 0, true, T⟩, by simp, Nat.le_refl _⟩
    · obtain ⟨k, h1, h2⟩ := r.fresh b ver l h
      exact ⟨k, by rw [List.getElem?_append_left (List.getElem?_eq_some_iff.1 h1).1]; exact h1, h2⟩
  · intro b ver l h
    simp only [σ'] at h
    split at h
    · cases h
      exact .inr (.inl (Nat.le_refl _))
    · exact .inl h
  · intro b k' l h1 h2 h3
    rcases hget b k' h1 with ⟨h4, h5⟩ | ⟨rfl, rfl⟩
    · exact ⟨k', h4, h2, rfl⟩
    · rw [r.free] at h3
      cases h3
/-- A new block that stays as it is. -/
theorem Rel.seal (r : Rel G σ H w) (C : Array Value) (T : TypeId) (fr : Nat × Nat) :
    let σ' : Sig := ⟨σ.ρ, fun B => σ.ro B ∨ B = w.heap.size⟩
    Rel G σ' H (w.alloc (.cells C T fr)) ∧ Ext σ H w σ' H (w.alloc (.cells C T fr)) ∧ (∀ x u, AR σ w x u → AR σ' (w.alloc (.cells C T fr)) x u) := by
  intro σ'
  have hold : ∀ B, B < w.heap.size → (w.alloc (.cells C T fr)).heap[B]? = w.heap[B]? := fun B hB => RowKit.Below.heap_alloc _ _ _ hB
  have hm : ∀ x u, AR σ w x u → AR σ' (w.alloc (.cells C T fr)) x u := fun x u h => AR.mono (σ := σ) (σ' := σ') (fun _ _ _ h => h) (fun _ h => Or.inl h) (fun B hB => hold B (r.roLt B hB)) h
  refine ⟨⟨fun b k l h1 h2 h3 => ?_, r.inj, fun b k l h1 h2 h3 h => ?_, fun B h => ?_, r.fresh, fun g => hm _ _ (r.glob g), r.base0⟩,
    ⟨rfl, rfl, rfl, by simp, fun _ _ _ h => h, fun _ h => Or.inl h, fun B hB _ => hold B hB, fun _ _ _ h => .inl h, fun b k' l h h1 _ => ⟨k', h, h1, rfl⟩, fun B h => ?_, Nat.le_refl _⟩, hm⟩
  · obtain ⟨C0, fr0, a1, a2, a3, a4, a5⟩ := r.blk b k l h1 h2 h3
    refine ⟨C0, fr0, by rw [hold _ (Array.getElem?_eq_some_iff.1 a1).1]; exact a1, a2, a3, a4, fun j hj => ?_⟩
    obtain ⟨u, b1, b2⟩ := a5 j hj
    exact ⟨u, b1, hm _ _ b2⟩
  · have := r.lt h1 h2 h3
    rcases h with h | h
    · exact r.apart b k l h1 h2 h3 h
    · omega
  · rcases h with h | h
    · have := r.roLt B h
      simp
      omega
    · subst h
      simp
  · rcases h with h | h
    · exact .inl h
    · exact .inr (.inl (by omega))
/-- A block is written. -/
theorem Rel.upd (r : Rel G σ H w) {b : Nat} {k : Blk} {l : Loc} (hk : H[b]? = some k) (hlv : k.live = true) (hl : σ.ρ b k.ver = some l) {C : Array Value} {fr : Nat × Nat} {w' : World} (cs : List AV)
    (hb : w'.heap[l.B]? = some (.cells C k.elem fr)) (hsz : C.size = l.lim) (hcs : l.base + cs.length ≤ l.lim) (hfr : l.lim ≤ fr.1 ∨ fr.1 = fr.2)
    (hcells : ∀ j, j < cs.length → ∃ u, C[l.base + j]? = some u ∧ AR σ w (cs.getD j .any) u)
    (hother : ∀ B, B ≠ l.B → w'.heap[B]? = w.heap[B]?) (hsize : w'.heap.size = w.heap.size) (ho : w'.os = w.os) (ht : w'.tape = w.tape) (hp : w'.output = w.output) :
    Rel G σ (H.set b { k with cells := cs }) w' ∧ Ext σ H w σ (H.set b { k with cells := cs }) w' ∧ (∀ x u, AR σ w x u → AR σ w' x u) := by
  have hro : ∀ B, σ.ro B → w'.heap[B]? = w.heap[B]? := fun B hB => hother B (fun e => r.apart b k l hk hlv hl (e ▸ hB))
  have hm : ∀ x u, AR σ w x u → AR σ w' x u := fun x u h => h.mono (fun _ _ _ h => h) (fun _ h => h) hro
  have hlt : b < H.length := (List.getElem?_eq_some_iff.1 hk).1
  have hget : ∀ (b' : Nat) (k' : Blk), (H.set b { k with cells := cs })[b']? = some k' → (b' ≠ b ∧ H[b']? = some k') ∨ (b' = b ∧ k' = { k with cells := cs }) := by
    intro b' k' h
    rw [List.getElem?_set] at h
    split at h
    · rename_i e
      subst e
      try rw [if_pos hlt] at h
      exact .inr ⟨rfl, (Option.some.inj h).symm⟩
    · rename_i e
      exact .inl ⟨fun e' => e e'.symm, h⟩
  have hold : ∀ (b' : Nat) (k' : Blk), (H.set b { k with cells := cs })[b']? = some k' → ∃ k0, H[b']? = some k0 ∧ k0.live = k'.live ∧ k0.ver = k'.ver := by
    intro b' k' h
    rcases hget b' k' h with ⟨_, h⟩ | ⟨rfl, rfl⟩
    · exact ⟨k', h, rfl, rfl⟩
    · exact ⟨k, hk, rfl, rfl⟩
  refine ⟨⟨?_, ?_, ?_, fun B hB => by rw [hsize]; exact r.roLt B hB, ?_, fun g => hm _ _ (r.glob g), r.base0⟩,
    ⟨ho, ht, hp, by rw [hsize]; exact Nat.le_refl _, fun _ _ _ h => h, fun _ h => h, fun B _ hn => hother B (fun e => hn ⟨b, k, l, hk, hlv, hl, e.symm⟩), fun _ _ _ h => .inl h, ?_, fun _ h => .inl h, by simp⟩, hm⟩
  · intro b' k' l' h1 h2 h3
    rcases hget b' k' h1 with ⟨hne, h⟩ | ⟨rfl, rfl⟩
    · obtain ⟨C0, fr0, a1, a2, a3, a4, a5⟩ := r.blk b' k' l' h h2 h3
      refine ⟨C0, fr0, by rw [hother _ (fun e => hne (r.inj b' b k' k l' l h h2 h3 hk hlv hl e))]; exact a1, a2, a3, a4, fun j hj => ?_⟩
      obtain ⟨u, b1, b2⟩ := a5 j hj
      exact ⟨u, b1, hm _ _ b2⟩
    · have : l' = l := Option.some.inj (h3.symm.trans hl)
      subst this
      refine ⟨C, fr, hb, hsz, hcs, hfr, fun j hj => ?_⟩
      obtain ⟨u, b1, b2⟩ := hcells j hj
      exact ⟨u, b1, hm _ _ b2⟩
  · intro b1 b2 k1 k2 l1 l2 h1 h2 h3 g1 g2 g3 e
    obtain ⟨k1', a1, a2, a3⟩ := hold _ _ h1
    obtain ⟨k2', c1, c2, c3⟩ := hold _ _ g1
    exact r.inj b1 b2 k1' k2' l1 l2 a1 (a2.trans h2) (by rw [a3]; exact h3) c1 (c2.trans g2) (by rw [c3]; exact g3) e
  · intro b' k' l' h1 h2 h3
    obtain ⟨k0, a1, a2, a3⟩ := hold _ _ h1
    exact r.apart b' k0 l' a1 (a2.trans h2) (by rw [a3]; exact h3)
  · intro b' ver l' h
    obtain ⟨k0, a1, a2⟩ := r.fresh b' ver l' h
    by_cases e : b' = b
    · subst e
      rw [hk] at a1
      cases a1
      exact ⟨_, List.getElem?_set_self hlt, a2⟩
    · exact ⟨k0, by rw [List.getElem?_set_ne (fun e' => e e'.symm)]; exact a1, a2⟩
  · intro b' k' l' h1 h2 _
    obtain ⟨k0, a1, a2, a3⟩ := hold _ _ h1
    exact ⟨k0, a1, a2.trans h2, a3⟩
/-- A row grows: a new version, wherever it lies. -/
theorem Rel.bump (r : Rel G σ H w) {b : Nat} {k : Blk} (hk : H[b]? = some k) (hlv : k.live = true) {C : Array Value} {T : TypeId} {fr : Nat × Nat} {w' : World} (cs : List AV) (l' : Loc)
    (hb : w'.heap[l'.B]? = some (.cells C T fr)) (hsz : C.size = l'.lim) (hcs : l'.base + cs.length ≤ l'.lim) (hfr : l'.lim ≤ fr.1 ∨ fr.1 = fr.2)
    (hcells : ∀ j, j < cs.length → ∃ u, C[l'.base + j]? = some u ∧ AR σ w (cs.getD j .any) u)
    (hwhere : w.heap.size ≤ l'.B ∨ ∃ l, σ.ρ b k.ver = some l ∧ l.B = l'.B) (hbase : l'.base = 0)
    (hother : ∀ B, B < w.heap.size → B ≠ l'.B → w'.heap[B]? = w.heap[B]?) (hsize : w.heap.size ≤ w'.heap.size) (ho : w'.os = w.os) (ht : w'.tape = w.tape) (hp : w'.output = w.output) :
    let σ' : Sig := ⟨fun b0 ver => if b0 = b ∧ ver = k.ver + 1 then some l' else σ.ρ b0 ver, σ.ro⟩
    Rel G σ' (H.set b ⟨cs, k.ver + 1, true, T⟩) w' ∧ Ext σ H w σ' (H.set b ⟨cs, k.ver + 1, true, T⟩) w' ∧ (∀ x u, AR σ w x u → AR σ' w' x u) := by
  intro σ'
  have hlt : b < H.length := (List.getElem?_eq_some_iff.1 hk).1
  have himg : w.heap.size ≤ l'.B ∨ Img σ H l'.B := hwhere.imp id (fun ⟨l, h1, h2⟩ => ⟨b, k, l, hk, hlv, h1, h2⟩)
  have hnro : ∀ B, σ.ro B → B ≠ l'.B := by
    rintro B hB rfl
    rcases hwhere with h | ⟨l, h1, h2⟩
    · have := r.roLt _ hB
      omega
    · exact r.apart b k l hk hlv h1 (h2 ▸ hB)
  have hro : ∀ B, σ.ro B → w'.heap[B]? = w.heap[B]? := fun B hB => hother B (r.roLt B hB) (hnro B hB)
  have hnone : σ.ρ b (k.ver + 1) = none := r.later hk (Nat.lt_succ_self _)
  have hρ : ∀ b0 ver l, σ.ρ b0 ver = some l → σ'.ρ b0 ver = some l := fun b0 ver l h => by
    simp only [σ']
    rw [if_neg]
    · exact h
    · rintro ⟨rfl, rfl⟩
      rw [hnone] at h
      cases h
  have hm : ∀ x u, AR σ w x u → AR σ' w' x u := fun x u h => h.mono hρ (fun _ h => h) hro
  have hget : ∀ (b' : Nat) (k' : Blk), (H.set b ⟨cs, k.ver + 1, true, T⟩)[b']? = some k' → (b' ≠ b ∧ H[b']? = some k') ∨ (b' = b ∧ k' = ⟨cs, k.ver + 1, true, T⟩) := by
    intro b' k' h
    rw [List.getElem?_set] at h
    split at h
    · rename_i e
      subst e
      try rw [if_pos hlt] at h
      exact .inr ⟨rfl, (Option.some.inj h).symm⟩
    · rename_i e
      exact .inl ⟨fun e' => e e'.symm, h⟩
  have hk' : ∀ b' k' l, b' ≠ b → σ'.ρ b' k' = some l → σ.ρ b' k' = some l := fun b' k' l hne h => by
    simp only [σ'] at h
    rwa [if_neg (fun e => hne e.1)] at h
  have hn : ∀ l, σ'.ρ b (k.ver + 1) = some l → l = l' := fun l h => by
    simp only [σ'] at h
    simp at h
    exact h.symm
  have hfar : ∀ b' k' l, b' ≠ b → H[b']? = some k' → k'.live = true → σ.ρ b' k'.ver = some l → l.B ≠ l'.B := by
    intro b' k' l hne h1 h2 h3 e
    rcases hwhere with h | ⟨l0, g1, g2⟩
    · have := r.lt h1 h2 h3
      omega
    · exact hne (r.inj b' b k' k l l0 h1 h2 h3 hk hlv g1 (e.trans g2.symm))
  refine ⟨⟨?_, ?_, ?_, fun B hB => Nat.lt_of_lt_of_le (r.roLt B hB) hsize, ?_, fun g => hm _ _ (r.glob g), fun b0 ver l h => by
      simp only [σ'] at h
      split at h
      · cases h; exact hbase
      · exact r.base0 b0 ver l h⟩,
    ⟨ho, ht, hp, hsize, hρ, fun _ h => h, fun B hB hni => hother B hB (fun e => ?_), ?_, ?_, fun _ h => .inl h, by simp⟩, hm⟩
  · intro b' k' l h1 h2 h3
    rcases hget b' k' h1 with ⟨hne, h⟩ | ⟨rfl, rfl⟩
    · have h4 := hk' _ _ _ hne h3
      obtain ⟨C0, fr0, a1, a2, a3, a4, a5⟩ := r.blk b' k' l h h2 h4
      refine ⟨C0, fr0, by rw [hother _ (r.lt h h2 h4) (hfar _ _ _ hne h h2 h4)]; exact a1, a2, a3, a4, fun j hj => ?_⟩
      obtain ⟨u, b1, b2⟩ := a5 j hj
      exact ⟨u, b1, hm _ _ b2⟩
    · obtain rfl := hn l h3
      refine ⟨C, fr, hb, hsz, hcs, hfr, fun j hj => ?_⟩
      obtain ⟨u, b1, b2⟩ := hcells j hj
      exact ⟨u, b1, hm _ _ b2⟩
  · intro b1 b2 k1 k2 l1 l2 h1 h2 h3 g1 g2 g3 e
    rcases hget b1 k1 h1 with ⟨n1, h4⟩ | ⟨rfl, rfl⟩ <;> rcases hget b2 k2 g1 with ⟨n2, g4⟩ | ⟨rfl, rfl⟩
    · exact r.inj b1 b2 k1 k2 l1 l2 h4 h2 (hk' _ _ _ n1 h3) g4 g2 (hk' _ _ _ n2 g3) e
    · obtain rfl := hn l2 g3
      exact absurd e (hfar _ _ _ n1 h4 h2 (hk' _ _ _ n1 h3))
    · obtain rfl := hn l1 h3
      exact absurd e.symm (hfar _ _ _ n2 g4 g2 (hk' _ _ _ n2 g3))
    · rfl
  · intro b' k' l h1 h2 h3 hB
    rcases hget b' k' h1 with ⟨hne, h⟩ | ⟨rfl, rfl⟩
    · exact r.apart b' k' l h h2 (hk' _ _ _ hne h3) hB
    · obtain rfl := hn l h3
      exact hnro _ hB rfl
  · intro b' ver l h
    simp only [σ'] at h
    split at h
    · rename_i e
      obtain ⟨rfl, rfl⟩ := e
      exact ⟨_, List.getElem?_set_self hlt, Nat.le_refl _⟩
    · obtain ⟨k0, a1, a2⟩ := r.fresh b' ver l h
      by_cases e : b' = b
      · subst e
        rw [hk] at a1
        cases a1
        exact ⟨_, List.getElem?_set_self hlt, Nat.le_succ_of_le a2⟩
      · exact ⟨k0, by rw [List.getElem?_set_ne (fun e' => e e'.symm)]; exact a1, a2⟩
  · rcases himg with h | h
    · omega
    · exact hni (e ▸ h)
  · intro b' ver l h
    simp only [σ'] at h
    split at h
    · cases h
      exact .inr himg
    · exact .inl h
  · intro b' k' l h1 h2 h3
    rcases hget b' k' h1 with ⟨hne, h⟩ | ⟨rfl, rfl⟩
    · exact ⟨k', h, h2, rfl⟩
    · rw [hnone] at h3
      cases h3
/-- A block is left to be read alone. -/
theorem Rel.freeze (r : Rel G σ H w) {b : Nat} {k : Blk} (hk : H[b]? = some k) (hlv : k.live = true) {l : Loc} (hl : σ.ρ b k.ver = some l) :
    let σ' : Sig := ⟨σ.ρ, fun B => σ.ro B ∨ B = l.B⟩
    Rel G σ' (H.set b { k with live := false }) w ∧ Ext σ H w σ' (H.set b { k with live := false }) w ∧ (∀ x u, AR σ w x u → AR σ' w x u) ∧
      (∀ o n, o + n ≤ k.cells.length → ∃ u : Nat → Value, (∀ j, j < n → w.cell? ⟨l.B, l.base + o + j, none⟩ = some (u j)) ∧ ∀ j, j < n → AR σ' w (k.cells.getD (o + j) .any) (u j)) := by
  intro σ'
  have hlt : b < H.length := (List.getElem?_eq_some_iff.1 hk).1
  have hm : ∀ x u, AR σ w x u → AR σ' w x u := fun x u h => AR.mono (σ := σ) (σ' := σ') (fun _ _ _ h => h) (fun _ h => Or.inl h) (fun _ _ => rfl) h
  have hget : ∀ (b' : Nat) (k' : Blk), (H.set b { k with live := false })[b']? = some k' → k'.live = true → b' ≠ b ∧ H[b']? = some k' := by
    intro b' k' h h2
    rw [List.getElem?_set] at h
    split at h
    · rename_i e
      subst e
      try rw [if_pos hlt] at h
      cases h
      cases h2
    · rename_i e
      exact ⟨fun e' => e e'.symm, h⟩
  refine ⟨⟨fun b' k' l' h1 h2 h3 => ?_, fun b1 b2 k1 k2 l1 l2 h1 h2 h3 g1 g2 g3 => r.inj b1 b2 k1 k2 l1 l2 (hget _ _ h1 h2).2 h2 h3 (hget _ _ g1 g2).2 g2 g3, fun b' k' l' h1 h2 h3 h => ?_, fun B h => ?_, fun b' ver l' h => ?_, fun g => hm _ _ (r.glob g), r.base0⟩,
    ⟨rfl, rfl, rfl, Nat.le_refl _, fun _ _ _ h => h, fun _ h => Or.inl h, fun _ _ _ => rfl, fun _ _ _ h => .inl h, fun b' k' l' h1 h2 h3 => ⟨k', (hget _ _ h1 h2).2, h2, rfl⟩, fun B h => ?_, by simp⟩, hm, ?_⟩
  · obtain ⟨C0, fr0, a1, a2, a3, a4, a5⟩ := r.blk b' k' l' (hget _ _ h1 h2).2 h2 h3
    refine ⟨C0, fr0, a1, a2, a3, a4, fun j hj => ?_⟩
    obtain ⟨u, b1, b2⟩ := a5 j hj
    exact ⟨u, b1, hm _ _ b2⟩
  · obtain ⟨hne, h4⟩ := hget _ _ h1 h2
    rcases h with h | h
    · exact r.apart b' k' l' h4 h2 h3 h
    · exact hne (r.inj b' b k' k l' l h4 h2 h3 hk hlv hl h)
  · rcases h with h | rfl
    · exact r.roLt B h
    · exact r.lt hk hlv hl
  · obtain ⟨k0, a1, a2⟩ := r.fresh b' ver l' h
    by_cases e : b' = b
    · subst e
      rw [hk] at a1
      cases a1
      exact ⟨_, List.getElem?_set_self hlt, a2⟩
    · exact ⟨k0, by rw [List.getElem?_set_ne (fun e' => e e'.symm)]; exact a1, a2⟩
  · rcases h with h | rfl
    · exact .inl h
    · exact .inr (.inr ⟨b, k, l, hk, hlv, hl, rfl⟩)
  · intro o n hon
    obtain ⟨C0, fr0, a1, a2, a3, a4, a5⟩ := r.blk b k l hk hlv hl
    refine ⟨fun j => C0.getD (l.base + o + j) undef, fun j hj => ?_, fun j hj => ?_⟩
    · obtain ⟨u, b1, _⟩ := a5 (o + j) (by omega)
      rw [← Nat.add_assoc] at b1
      rw [cell_of_row w l.B _ C0 k.elem fr0 a1, b1]
      simp [b1]
    · obtain ⟨u, b1, b2⟩ := a5 (o + j) (by omega)
      rw [← Nat.add_assoc] at b1
      have : C0.getD (l.base + o + j) undef = u := by simp [b1]
      show AR σ' w _ (C0.getD (l.base + o + j) undef)
      rw [this]
      exact hm _ _ b2
end Go.Abs
namespace Go.Abs
set_option linter.unusedVariables false
set_option linter.unusedSimpArgs false
variable {P : Program} {G : Glob} {σ : Sig} {H : AHeap} {w : World}
def tsz (P : Program) (t : TypeId) : Option Nat := (P.info? t).map (·.size)
def tby (P : Program) (t : TypeId) : Option Nat := (P.info? t).map (·.bytes)
def tzero (P : Program) (t : TypeId) : Option Value := (P.info? t).bind (·.zero)
/-- A value's cells. -/
def vcells : AV → Option (List AV)
  | .agg cs => some cs
  | .v (.agg us) => some (us.toList.map .v)
  | .any | .tup _ | .v (.tuple _) => none
  | x => some [x]
theorem vcells_ar {x : AV} {cs : List AV} {u : Value} (hc : vcells x = some cs) (h : AR σ w x u) : u.cells.size = cs.length ∧ ∀ j, j < cs.length → AR σ w (cs.getD j .any) (u.cells.getD j undef) := by
  have one : ∀ {y : AV} {z : Value}, AR σ w y z → some [y] = some cs → z.cells = #[z] → z.cells.size = cs.length ∧ ∀ j, j < cs.length → AR σ w (cs.getD j .any) (z.cells.getD j undef) := by
    intro y z h1 h2 h3
    cases h2
    rw [h3]
    refine ⟨rfl, fun j hj => ?_⟩
    have : j = 0 := by simpa using hj
    subst this
    exact h1
  cases h with
  | any u => simp [vcells] at hc
  | v =>
    cases u with
    | agg us =>
      simp only [vcells, Option.some.injEq] at hc
      subst hc
      refine ⟨by simp [Value.cells], fun j hj => ?_⟩
      simp only [List.length_map, Array.length_toList] at hj
      simp only [Value.cells, List.getD_eq_getElem?_getD, List.getElem?_map, Array.getElem?_toList, Array.getElem?_eq_getElem hj, Option.map_some, Option.getD_some, Array.getD_eq_getD_getElem?]
      exact .v _
    | tuple us => simp [vcells] at hc
    | _ => exact one (.v _) hc rfl
  | ptr h => exact one (.ptr h) hc rfl
  | sl h h1 h2 h3 => exact one (.sl h h1 h2 h3) hc rfl
  | sl0 A => exact one (.sl0 A) hc rfl
  | vptr B o u hr hm ha => exact one (.vptr B o u hr hm ha) hc rfl
  | vsl B o c' u hr hm ha hl hx => exact one (.vsl B o c' u hr hm ha hl hx) hc rfl
  | vsl0 A c' hx => exact one (.vsl0 A c' hx) hc rfl
  | agg us hl ha =>
    simp only [vcells, Option.some.injEq] at hc
    subst hc
    exact ⟨hl, ha⟩
  | tup us hl ha => simp [vcells] at hc
  | fn us hl ha => exact one (.fn us hl ha) hc rfl
  | ifc h => exact one (.ifc h) hc rfl
  | ub b => exact one (.ub b) hc rfl
  | bsl0 => exact one .bsl0 hc rfl
  | bsl h h0 h1 hl => exact one (.bsl h h0 h1 hl) hc rfl
  | usd0 p => exact one (.usd0 p) hc rfl
  | usd h => exact one (.usd h) hc rfl
  | bad0 => exact one .bad0 hc rfl
  | bad h => exact one (.bad h) hc rfl
/-- Cells lie in memory. -/
def Mem (σ : Sig) (w : World) (B o : Nat) (cs : List AV) : Prop := ∀ j, j < cs.length → ∃ u, w.cell? ⟨B, o + j, none⟩ = some u ∧ AR σ w (cs.getD j .any) u
theorem Rel.mem (r : Rel G σ H w) {b : Nat} {k : Blk} {l : Loc} (hk : H[b]? = some k) (hlv : k.live = true) (hl : σ.ρ b k.ver = some l) : Mem σ w l.B l.base k.cells := by
  obtain ⟨C, fr, h1, h2, h3, h4, h5⟩ := r.blk b k l hk hlv hl
  intro j hj
  obtain ⟨u, a1, a2⟩ := h5 j hj
  exact ⟨u, by rw [cell_of_row w l.B _ C k.elem fr h1]; exact a1, a2⟩
theorem Mem.of_fun {B o : Nat} {cs : List AV} {u : Nat → Value} (hm : ∀ j, j < cs.length → w.cell? ⟨B, o + j, none⟩ = some (u j)) (ha : ∀ j, j < cs.length → AR σ w (cs.getD j .any) (u j)) : Mem σ w B o cs :=
  fun j hj => ⟨u j, hm j hj, ha j hj⟩
/-- What is read of cells. -/
def rdP (P : Program) (t : TypeId) (cs : List AV) (off : Nat) (K : AV → Prop) : Prop :=
  match P.underlying t with
  | some (.struct _) | some (.array _ _) => match tsz P t with
    | some n => off + n ≤ cs.length ∧ K (.agg ((cs.drop off).take n))
    | none => False
  | some _ => off < cs.length ∧ K (cs.getD off .any)
  | none => False
theorem run_loadCells_mem {B o : Nat} {cs : List AV} (h : Mem σ w B o cs) (off n : Nat) (hn : off + n ≤ cs.length) :
    ∃ us : Array Value, (loadCells ⟨B, o + off, none⟩ n).run P w = .ok us w ∧ us.size = n ∧ ∀ j, j < n → AR σ w (cs.getD (off + j) .any) (us.getD j undef) := by
  have hch : ∀ j, j < n → ∃ u, w.cell? ⟨B, o + off + j, none⟩ = some u ∧ AR σ w (cs.getD (off + j) .any) u := fun j hj => by
    obtain ⟨u, h1, h2⟩ := h (off + j) (by omega)
    exact ⟨u, by rw [Nat.add_assoc]; exact h1, h2⟩
  refine ⟨((List.range n).map fun j => (w.cell? ⟨B, o + off + j, none⟩).getD undef).toArray, ?_, by simp, fun j hj => ?_⟩
  · have := run_loadCells_list (P := P) w ⟨B, o + off, none⟩ ((List.range n).map fun j => (w.cell? ⟨B, o + off + j, none⟩).getD undef) (fun j v hv => by
      obtain ⟨hj, rfl⟩ := List.getElem?_eq_some_iff.1 hv
      simp only [List.length_map, List.length_range] at hj
      obtain ⟨u, h1, _⟩ := hch j hj
      rw [Addr.add_lit]
      simp [h1])
    simpa using this
  · obtain ⟨u, h1, h2⟩ := hch j hj
    simpa [hj, h1] using h2
theorem run_loadVar_mem {B o : Nat} {cs : List AV} (h : Mem σ w B o cs) {t : TypeId} {off : Nat} {K : AV → Prop} (hr : rdP P t cs off K) :
    ∃ r u, K r ∧ (loadVar t ⟨B, o + off, none⟩).run P w = .ok u w ∧ AR σ w r u := by
  unfold rdP at hr
  have plain : ∀ d, P.underlying t = some d → (match d with | .struct _ | .array _ _ => true | _ => false) = false → off < cs.length ∧ K (cs.getD off .any) →
      ∃ r u, K r ∧ (loadVar t ⟨B, o + off, none⟩).run P w = .ok u w ∧ AR σ w r u := by
    intro d hd hf ⟨h1, h2⟩
    obtain ⟨u, a1, a2⟩ := h off h1
    refine ⟨_, u, h2, ?_, a2⟩
    cases d <;> first | (cases hf; done) | simp [loadVar, isAgg, run_underlying hd, a1]
  have rows : ∀ d, P.underlying t = some d → (match d with | .struct _ | .array _ _ => true | _ => false) = true → (match tsz P t with | some n => off + n ≤ cs.length ∧ K (.agg ((cs.drop off).take n)) | none => False) →
      ∃ r u, K r ∧ (loadVar t ⟨B, o + off, none⟩).run P w = .ok u w ∧ AR σ w r u := by
    intro d hd hf hr
    unfold tsz at hr
    cases hi : P.info? t with
    | none => simp [hi] at hr
    | some i =>
      simp only [hi, Option.map_some] at hr
      obtain ⟨us, b1, b2, b3⟩ := run_loadCells_mem (P := P) h off i.size hr.1
      refine ⟨_, .agg us, hr.2, ?_, .agg us (by rw [b2, List.length_take, List.length_drop]; omega) (fun j hj => ?_)⟩
      · cases d <;> first | (cases hf; done) | simp [loadVar, isAgg, run_underlying hd, sizeOf, typeInfo, hi, b1]
      · rw [List.length_take, List.length_drop] at hj
        have := b3 j (by omega)
        rwa [List.getD_eq_getElem?_getD, List.getElem?_take, if_pos (by omega), List.getElem?_drop, ← List.getD_eq_getElem?_getD]
  cases hd : P.underlying t with
  | none => simp [hd] at hr
  | some d =>
    cases d <;> simp only [hd] at hr <;> first | exact rows _ hd rfl hr | exact plain _ hd rfl hr
/-- cs, written into a row from off on. -/
def splice (cs : List AV) (off : Nat) (c : List AV) : List AV := cs.take off ++ c ++ cs.drop (off + c.length)
theorem splice_length {cs c : List AV} {off : Nat} (h : off + c.length ≤ cs.length) : (splice cs off c).length = cs.length := by
  simp [splice]
  omega
theorem splice_get {cs c : List AV} {off : Nat} (h : off + c.length ≤ cs.length) (j : Nat) : (splice cs off c)[j]? = if off ≤ j ∧ j < off + c.length then c[j - off]? else cs[j]? := by
  unfold splice
  rw [List.getElem?_append, List.getElem?_append]
  simp only [List.length_append, List.length_take, Nat.min_eq_left (show off ≤ cs.length by omega)]
  by_cases h1 : j < off
  · rw [if_pos (by omega), if_pos h1, if_neg (by omega), List.getElem?_take, if_pos h1]
  · by_cases h2 : j < off + c.length
    · rw [if_pos h2, if_neg h1, if_pos (by omega)]
    · rw [if_neg h2, if_neg (by omega), List.getElem?_drop]
      congr 1
      omega
theorem setCell_blk (w : World) (B o : Nat) (v : Value) (C : Array Value) (T : TypeId) (fr : Nat × Nat) (h : w.heap[B]? = some (.cells C T fr)) : (w.setCell ⟨B, o, none⟩ v).heap[B]? = some (.cells (C.setIfInBounds o v) T fr) := by
  simp [World.setCell, Array.getElem?_modify, h]
theorem run_storeCells_blk {B o : Nat} {T : TypeId} {fr : Nat × Nat} : ∀ (vs : List Value) (i : Nat) (C : Array Value) (w : World), w.heap[B]? = some (.cells C T fr) → o + i + vs.length ≤ C.size → (C.size ≤ fr.1 ∨ fr.1 = fr.2) → (∀ v ∈ vs, v.oneCell' = true) →
    ∃ (w' : World) (C' : Array Value), (storeCells ⟨B, o, none⟩ vs i).run P w = .ok () w' ∧ w'.heap[B]? = some (.cells C' T fr) ∧ C'.size = C.size ∧
      (∀ j, C'[j]? = if o + i ≤ j ∧ j < o + i + vs.length then vs[j - (o + i)]? else C[j]?) ∧ (∀ B', B' ≠ B → w'.heap[B']? = w.heap[B']?) ∧ w'.heap.size = w.heap.size ∧ w'.os = w.os ∧ w'.tape = w.tape ∧ w'.output = w.output
  | [], i, C, w, h, _, _, _ => ⟨w, C, rfl, h, rfl, fun j => by rw [if_neg (by simp)], fun _ _ => rfl, rfl, rfl, rfl, rfl⟩
  | v :: vs, i, C, w, h, hl, hf, h1 => by
    simp only [List.length_cons] at hl
    have hcell : w.cell? ⟨B, o + i, none⟩ = C[o + i]? := cell_of_row w B (o + i) C T fr h
    have hlt : o + i < C.size := by omega
    have hfz : w.frozen? ⟨B, o + i, none⟩ = false := by
      unfold World.frozen?
      simp only [h]
      simp
      omega
    have hset := setCell_blk w B (o + i) v C T fr h
    obtain ⟨w', C', a1, a2, a3, a4, a5, a6, a7, a8, a9⟩ := run_storeCells_blk (o := o) vs (i + 1) (C.setIfInBounds (o + i) v) (w.setCell ⟨B, o + i, none⟩ v) hset (by simp; omega) (by simpa using hf) (fun u hu => h1 u (by simp [hu]))
    refine ⟨w', C', ?_, a2, by simpa using a3, fun j => ?_, fun B' hB => (a5 B' hB).trans (RowKit.Below.heap_setCell _ _ _ _ hB), a6.trans (by simp [World.setCell]), a7, a8, a9⟩
    · have hrun : (store ⟨B, o + i, none⟩ v).run P w = .ok () (w.setCell ⟨B, o + i, none⟩ v) := by
        rw [run_store P w _ v .plain (h1 v (by simp)), hcell, Array.getElem?_eq_getElem hlt]
        simp [hfz]
      simp only [storeCells, Addr.add_lit, Sem.run_bind, hrun, Result.andThen_ok]
      exact a1
    · rw [a4]
      simp only [List.length_cons]
      by_cases hj : o + (i + 1) ≤ j ∧ j < o + (i + 1) + vs.length
      · rw [if_pos hj, if_pos (by omega)]
        obtain ⟨d, rfl⟩ : ∃ d, j = o + (i + 1) + d := ⟨j - (o + (i + 1)), by omega⟩
        rw [show o + (i + 1) + d - (o + (i + 1)) = d from by omega, show o + (i + 1) + d - (o + i) = d + 1 from by omega]
        simp
      · rw [if_neg hj]
        by_cases e : j = o + i
        · subst e
          rw [if_pos (by omega)]
          simp [hlt]
        · rw [if_neg (by omega), Array.getElem?_setIfInBounds_ne (fun e' => e e'.symm)]
/-- A row of cells of a block is written. -/
theorem Rel.store (r : Rel G σ H w) {b : Nat} {k : Blk} {l : Loc} (hk : H[b]? = some k) (hlv : k.live = true) (hl : σ.ρ b k.ver = some l) (off : Nat) (c : List AV) (us : List Value) (hlen : us.length = c.length) (hfit : off + c.length ≤ k.cells.length)
    (hone : ∀ u ∈ us, u.oneCell' = true) (har : ∀ j, j < c.length → AR σ w (c.getD j .any) (us.getD j undef)) :
    ∃ w', (storeCells ⟨l.B, l.base + off, none⟩ us).run P w = .ok () w' ∧ Rel G σ (H.set b { k with cells := splice k.cells off c }) w' ∧ Ext σ H w σ (H.set b { k with cells := splice k.cells off c }) w' ∧ (∀ x u, AR σ w x u → AR σ w' x u) := by
  obtain ⟨C, fr, h1, h2, h3, h4, h5⟩ := r.blk b k l hk hlv hl
  obtain ⟨w', C', a1, a2, a3, a4, a5, a6, a7, a8, a9⟩ := run_storeCells_blk (P := P) (o := l.base + off) us 0 C w h1 (by omega) (by rw [h2]; exact h4) hone
  refine ⟨w', a1, r.upd hk hlv hl (splice k.cells off c) a2 (a3.trans h2) (by rw [splice_length hfit]; exact h3) h4 (fun j hj => ?_) a5 a6 a7 a8 a9⟩
  rw [splice_length hfit] at hj
  rw [a4, List.getD_eq_getElem?_getD, splice_get hfit]
  by_cases hjr : off ≤ j ∧ j < off + c.length
  · rw [if_pos (by omega), if_pos hjr]
    have hlt : j - off < us.length := by omega
    refine ⟨us[j - off], by rw [show l.base + j - (l.base + off + 0) = j - off from by omega]; simp [hlt], ?_⟩
    have := har (j - off) (by omega)
    rw [List.getD_eq_getElem?_getD, List.getD_eq_getElem?_getD, List.getElem?_eq_getElem hlt] at this
    exact this
  · rw [if_neg (by omega), if_neg hjr, ← List.getD_eq_getElem?_getD]
    exact h5 j hj
theorem ones_of {c : List AV} {us : List Value} (h1 : c.all AV.one = true) (hlen : us.length = c.length) (har : ∀ j, j < c.length → AR σ w (c.getD j .any) (us.getD j undef)) : ∀ u ∈ us, u.oneCell' = true := by
  intro u hu
  obtain ⟨j, hj, rfl⟩ := List.getElem_of_mem hu
  have := har j (by omega)
  rw [List.getD_eq_getElem?_getD, List.getD_eq_getElem?_getD, List.getElem?_eq_getElem hj, List.getElem?_eq_getElem (show j < c.length by omega)] at this
  exact this.one (List.all_eq_true.1 h1 _ (List.getElem_mem _))
/-- What an operation comes to. -/
def OpOk (P : Program) (G : Glob) (q : Bool) (o : Oper) (env : Operand → AV) (H : AHeap) (r : AV) (H' : AHeap) : Prop :=
  ∀ (σ : Sig) (w : World) (a : Act) (K : Act → World → Prop) (Q : Exit → Act → World → Prop), (∀ x, x ∈ o.op.operands → AR σ w (env x) (a.eval x)) → Rel G σ H w →
    (∀ u w', Res G q σ H w r H' u w' → K (a.put o.dst u) w') → o.wp P a w K Q
/-- By a run. -/
theorem OpOk.run {q : Bool} {o : Oper} {env : Operand → AV} {r : AV} {H' : AHeap} (h : ∀ (σ : Sig) (w : World) (a : Act), (∀ x, x ∈ o.op.operands → AR σ w (env x) (a.eval x)) → Rel G σ H w →
    ∃ u w', ((execOp a.eval o).run P w = .ok (.value u) w' ∨ ((execOp a.eval o).run P w = .ok .skip w' ∧ u = undef)) ∧ Res G q σ H w r H' u w') : OpOk P G q o env H r H' := by
  intro σ w a K Q hx r hK
  obtain ⟨u, w', h1, h2⟩ := h σ w a hx r
  unfold Oper.wp
  rcases h1 with h1 | ⟨h1, rfl⟩
  · rw [h1]
    exact hK u w' h2
  · rw [h1]
    exact hK undef w' h2
def Callable (P : Program) (n : FuncId) : Prop := ∃ fn, P.funcs[n]? = some fn ∧ (fn.name == "runtime.NumGoroutine") = false ∧ fn.body.isSome = true
/-- What a call comes to. -/
def ACall (P : Program) (G : Glob) (q : Bool) (n : FuncId) (args : List AV) (H : AHeap) (r : AV) (H' : AHeap) : Prop :=
  Callable P n ∧ ∀ (σ : Sig) (w : World) (us : Array Value), us.size = args.length → (∀ j, j < args.length → AR σ w (args.getD j .any) (us.getD j undef)) → Rel G σ H w →
    Calls P n us w fun e w' => ∃ u, e = .returned u ∧ Res G q σ H w r H' u w'
/-- What a call of a function without a body comes to: it turns nothing. -/
def XCall (P : Program) (G : Glob) (n : FuncId) (args : List AV) (r : AV) : Prop :=
  ∀ (σ : Sig) (w : World) (us : Array Value), us.size = args.length → (∀ j, j < args.length → AR σ w (args.getD j .any) (us.getD j undef)) → ∃ u, (callFunc n us).run P w = .ok (.value u) w ∧ AR σ w r u
abbrev ACallX (P : Program) (G : Glob) (q : Bool) (n : FuncId) (args : List AV) (H : AHeap) (r : AV) (H' : AHeap) : Prop := ACall P G q n args H r H' ∨ (XCall P G n args r ∧ H' = H)
end Go.Abs
namespace Go.Abs
set_option linter.unusedVariables false
set_option linter.unusedSimpArgs false
variable {P : Program} {G : Glob} {σ : Sig} {H : AHeap} {w : World}
def Row (P : Program) (u : TypeId) : Prop := (∃ e, P.underlying u = some (.slice e)) ∨ P.underlying u = some .string
set_option maxHeartbeats 1000000 in
theorem run_append_far (t u ty e : TypeId) (i : TypeInfo) (z : Value) (ht : P.underlying t = some (.slice e)) (hu : Row P u) (hi : P.info? e = some i) (hz : i.zero = some z)
    (base : Option Addr) (sLen sCap n : Nat) (x : Value) (olds news : Array Value) (hx : (Builtin.lenOf x).run P w = .ok n w) (holds : ∀ w' : World, w'.heap = w.heap → (Builtin.firstCells i.size sLen (.slice base sLen sCap)).run P w' = .ok olds w')
    (hnews : ∀ w' : World, w'.heap = w.heap → (Builtin.firstCells i.size n x).run P w' = .ok news w') (hg : sCap < sLen + n) (h63 : ((sLen + n : Nat) : Int) ≤ 9223372036854775807) (hfit : (sLen + n) * i.bytes ≤ 140737488355328) :
    (Builtin.append_ #[t, u] ty #[.slice base sLen sCap, x]).run P w =
      .ok (.slice (some ⟨w.heap.size, 0, none⟩) (sLen + n) (grownCap w (sLen + n) sCap e)) (w.drew.alloc (.cells (olds ++ news ++ Builtin.zeroCells z.cells (grownCap w (sLen + n) sCap e - (sLen + n))) e)) := by
  have hn : ¬ (sLen + n ≤ sCap) := by omega
  have h63' : ¬ (9223372036854775807 < ((sLen : Int) + (n : Int))) := by omega
  have hf := growslice_fits hg hfit
  have h48' : ¬ (281474976710656 < Builtin.nextslicecap (sLen + n) sCap * i.bytes) := by omega
  have a1 := holds w.drew rfl
  have a2 := hnews w.drew rfl
  rcases hu with ⟨e', hd⟩ | hd
  all_goals simp [Builtin.append_, run_underlying ht, run_underlying hd, sizeOf, typeInfo, zeroValue, hi, hz, hx, hn, h63', h48', Question.forced, newRow, grownCap, a1, a2]
set_option maxHeartbeats 1000000 in
theorem run_append_near (t u ty e : TypeId) (i : TypeInfo) (ht : P.underlying t = some (.slice e)) (hu : Row P u) (hi : P.info? e = some i)
    (a : Addr) (sLen sCap n : Nat) (x : Value) (news : Array Value) (hx : (Builtin.lenOf x).run P w = .ok n w) (hnews : (Builtin.firstCells i.size n x).run P w = .ok news w) (hg : sLen + n ≤ sCap)
    (w' : World) (hst : (storeCells (a.add (sLen * i.size)) news.toList).run P w = .ok () w') :
    (Builtin.append_ #[t, u] ty #[.slice (some a) sLen sCap, x]).run P w = .ok (.slice (some a) (sLen + n) sCap) w' := by
  rcases hu with ⟨e', hd⟩ | hd
  all_goals simp [Builtin.append_, run_underlying ht, run_underlying hd, sizeOf, typeInfo, hi, hx, hg, hnews, hst]
set_option maxHeartbeats 1000000 in
theorem run_append_none (t u ty e : TypeId) (i : TypeInfo) (ht : P.underlying t = some (.slice e)) (hu : Row P u) (hi : P.info? e = some i)
    (x : Value) (news : Array Value) (sLen sCap : Nat) (hx : (Builtin.lenOf x).run P w = .ok 0 w) (hnews : (Builtin.firstCells i.size 0 x).run P w = .ok news w) (hg : sLen ≤ sCap) :
    (Builtin.append_ #[t, u] ty #[.slice none sLen sCap, x]).run P w = .ok (.slice none sLen sCap) w := by
  rcases hu with ⟨e', hd⟩ | hd
  all_goals simp [Builtin.append_, run_underlying ht, run_underlying hd, sizeOf, typeInfo, hi, hx, hnews, hg]
/-- What a slice, or a text, holds: how many, their cells. -/
def acont (H : AHeap) (sz : Nat) (x : AV) (K : Nat → List AV → Prop) : Prop :=
  match x with
  | .v (.slice none 0 0) => K 0 []
  | .v (.string s) => sz = 1 ∧ K s.size (s.data.toList.map fun b => .v (.int .u8 b.toNat))
  | .vsl len cs _ => cs.length = len * sz ∧ K len cs
  | .sl b ver off len _ sz' _ => sz' = sz ∧ match H[b]? with
    | some k => k.live = true ∧ k.ver = ver ∧ off + len * sz ≤ k.cells.length ∧ K len ((k.cells.drop off).take (len * sz))
    | none => False
  | _ => False
theorem run_cells_mem {B o : Nat} {cs : List AV} (h : Mem σ w B o cs) (off n : Nat) (hn : off + n ≤ cs.length) :
    ∃ us : Array Value, us.size = n ∧ (∀ j, j < n → AR σ w (cs.getD (off + j) .any) (us.getD j undef)) ∧ ∀ w' : World, w'.heap = w.heap → (loadCells ⟨B, o + off, none⟩ n).run P w' = .ok us w' := by
  obtain ⟨us, h1, h2, h3⟩ := run_loadCells_mem (P := P) h off n hn
  have hch : ∀ j, j < n → ∃ u, w.cell? ⟨B, o + off + j, none⟩ = some u ∧ AR σ w (cs.getD (off + j) .any) u := fun j hj => by
    obtain ⟨u, h1, h2⟩ := h (off + j) (by omega)
    exact ⟨u, by rw [Nat.add_assoc]; exact h1, h2⟩
  refine ⟨us, h2, h3, fun w' hw => ?_⟩
  have key : ∀ w' : World, w'.heap = w.heap → (loadCells ⟨B, o + off, none⟩ n).run P w' = .ok ((List.range n).map fun j => (w.cell? ⟨B, o + off + j, none⟩).getD undef).toArray w' := by
    intro w' hw
    have hc : ∀ a, w'.cell? a = w.cell? a := fun a => World.cell?_of_block (by rw [hw])
    have := run_loadCells_list (P := P) w' ⟨B, o + off, none⟩ ((List.range n).map fun j => (w.cell? ⟨B, o + off + j, none⟩).getD undef) (fun j v hv => by
      obtain ⟨hj, rfl⟩ := List.getElem?_eq_some_iff.1 hv
      simp only [List.length_map, List.length_range] at hj
      obtain ⟨u, h1, _⟩ := hch j hj
      rw [Addr.add_lit, hc]
      simp [h1])
    simpa using this
  have e1 := key w rfl
  rw [h1] at e1
  cases e1
  exact key w' hw
theorem ar_take {cs : List AV} {off n : Nat} {us : Array Value} (h : off + n ≤ cs.length) (ha : ∀ j, j < n → AR σ w (cs.getD (off + j) .any) (us.getD j undef)) : ∀ j, j < ((cs.drop off).take n).length → AR σ w (((cs.drop off).take n).getD j .any) (us.getD j undef) := by
  intro j hj
  rw [List.length_take, List.length_drop] at hj
  have := ha j (by omega)
  rwa [List.getD_eq_getElem?_getD, List.getElem?_take, if_pos (by omega), List.getElem?_drop, ← List.getD_eq_getElem?_getD]
theorem acont_ok (G : Glob) {sz : Nat} {x : AV} {K : Nat → List AV → Prop} (hc : acont H sz x K) :
    ∃ n cs, K n cs ∧ cs.length = n * sz ∧ ∀ (σ : Sig) (w : World) (u : Value), Rel G σ H w → AR σ w x u → ∃ us : Array Value, us.size = n * sz ∧ (∀ j, j < n * sz → AR σ w (cs.getD j .any) (us.getD j undef)) ∧
      (∀ w' : World, (Builtin.lenOf u).run P w' = .ok n w') ∧ ∀ w' : World, w'.heap = w.heap → (Builtin.firstCells sz n u).run P w' = .ok us w' := by
  cases x with
  | v y =>
    unfold acont at hc
    split at hc
    · rename_i e
      cases e
      refine ⟨0, [], hc, by simp, fun σ w u r h => ?_⟩
      cases h
      exact ⟨#[], by simp, fun j hj => by simp at hj, fun w' => rfl, fun w' _ => by simp [Builtin.firstCells]⟩
    · rename_i s e
      cases e
      obtain ⟨rfl, hK⟩ := hc
      refine ⟨s.size, _, hK, by rw [List.length_map, Array.length_toList, Nat.mul_one]; rfl, fun σ w u r h => ?_⟩
      cases h
      refine ⟨s.data.map fun b => .int .u8 b.toNat, by rw [Array.size_map, Nat.mul_one]; rfl, fun j hj => ?_, fun w' => rfl, fun w' _ => ?_⟩
      · have hj' : j < s.data.size := by rw [Nat.mul_one] at hj; exact hj
        simp only [List.getD_eq_getElem?_getD, List.getElem?_map, Array.getElem?_toList, Array.getD_eq_getD_getElem?, Array.getElem?_map, Array.getElem?_eq_getElem hj', Option.map_some, Option.getD_some]
        exact .v _
      · have : s.extract 0 s.size = s := by simp
        simp [Builtin.firstCells, this]
    · rename_i e
      cases e
    · rename_i e
      cases e
    · exact hc.elim
  | sl b ver off len cap sz' x =>
    obtain ⟨rfl, hc⟩ := hc
    cases hk : H[b]? with
    | none => simp [hk] at hc
    | some k =>
      simp only [hk] at hc
      obtain ⟨c1, rfl, c3, hK⟩ := hc
      refine ⟨len, _, hK, by rw [List.length_take, List.length_drop]; omega, fun σ w u r h => ?_⟩
      cases h with
      | @sl _ _ _ _ _ cap' _ _ l h h1 h2 h3 =>
        obtain ⟨us, a1, a2, a3⟩ := run_cells_mem (P := P) (r.mem hk c1 h) off (len * sz') c3
        refine ⟨us, a1, fun j hj => ar_take c3 a2 j (by rw [List.length_take, List.length_drop]; omega), fun w' => rfl, fun w' hw => ?_⟩
        simpa [Builtin.firstCells] using a3 w' hw
      | sl0 A =>
        refine ⟨#[], by simp, fun j hj => by simp at hj, fun w' => rfl, fun w' _ => ?_⟩
        cases A <;> simp [Builtin.firstCells, loadCells, loadCellsFrom]
  | vsl len cs cx =>
    obtain ⟨c1, hK⟩ := hc
    refine ⟨len, cs, hK, c1, fun σ w u r h => ?_⟩
    cases h with
    | @vsl _ _ _ B o c' u hr hm ha hl hx =>
      obtain ⟨us, a1, a2, a3⟩ := run_cells_mem (P := P) (Mem.of_fun hm ha) 0 (len * sz) (by omega)
      refine ⟨us, a1, fun j hj => by simpa using a2 j hj, fun w' => rfl, fun w' hw => ?_⟩
      simpa [Builtin.firstCells] using a3 w' hw
    | vsl0 A c' hx =>
      refine ⟨#[], by simp, fun j hj => by simp at hj, fun w' => rfl, fun w' _ => ?_⟩
      cases A <;> simp [Builtin.firstCells, loadCells, loadCellsFrom]
  | _ => exact hc.elim
/-- A slice to which something is appended. -/
def aapp (P : Program) (H : AHeap) (e : TypeId) (sz by' : Nat) (s : AV) (m : Nat) (c : List AV) (K : AV → AHeap → Prop) : Prop :=
  match s with
  | .v (.slice none 0 0) => m * by' ≤ 140737488355328 ∧ m ≤ 9223372036854775807 ∧ K (.sl H.length 0 0 m m sz false) (H ++ [⟨c, 0, true, e⟩])
  | .vsl len cs cx => cs.length = len * sz ∧ (len + m) * by' ≤ 140737488355328 ∧ len + m ≤ 9223372036854775807 ∧ if m = 0 ∧ 0 < len then K (.vsl len cs cx) H else (match cx with | some n => n < len + m ∨ (len = 0 ∧ n = 0) | none => False) ∧
      K (.sl H.length 0 0 (len + m) (len + m) sz false) (H ++ [⟨cs ++ c, 0, true, e⟩])
  | .sl b ver off len cap sz' x => sz' = sz ∧ (len + m) * by' ≤ 140737488355328 ∧ len + m ≤ 9223372036854775807 ∧ match H[b]? with
    | some k => k.live = true ∧ k.ver = ver ∧ k.elem = e ∧ off + len * sz ≤ k.cells.length ∧
      (match x with
        | false => off = 0 ∧ c.all AV.one = true ∧ K (.sl b (ver + 1) 0 (len + m) (len + m) sz false) (H.set b ⟨(k.cells.drop off).take (len * sz) ++ c, ver + 1, true, e⟩)
        | true => if len + m ≤ cap ∧ 0 < cap then off + cap * sz ≤ k.cells.length ∧ c.all AV.one = true ∧ K (.sl b ver off (len + m) cap sz true) (H.set b { k with cells := splice k.cells (off + len * sz) c })
          else K (.sl H.length 0 0 (len + m) (len + m) sz false) (H ++ [⟨(k.cells.drop off).take (len * sz) ++ c, 0, true, e⟩]))
    | none => False
  | .bsl b ver n => sz = 1 ∧ (n + m) * by' ≤ 140737488355328 ∧ n + m ≤ 9223372036854775807 ∧ match H[b]? with
    | some k => k.live = true ∧ k.ver = ver ∧ k.elem = e ∧ n ≤ k.cells.length ∧ c.all AV.one = true ∧ K (.bsl b (ver + 1) (n + m)) (H.set b ⟨k.cells.take n ++ c, ver + 1, true, e⟩)
    | none => False
  | _ => False
/-- The same, where nothing that was there turns. -/
def aappQ (P : Program) (H : AHeap) (e : TypeId) (sz by' : Nat) (s : AV) (m : Nat) (c : List AV) (K : AV → AHeap → Prop) : Prop :=
  match s with
  | .sl b ver off len cap sz' true => sz' = sz ∧ (len + m) * by' ≤ 140737488355328 ∧ len + m ≤ 9223372036854775807 ∧ match H[b]? with
    | some k => k.live = true ∧ k.ver = ver ∧ k.elem = e ∧ off + len * sz ≤ k.cells.length ∧ (cap < len + m ∨ cap = 0) ∧ K (.sl H.length 0 0 (len + m) (len + m) sz false) (H ++ [⟨(k.cells.drop off).take (len * sz) ++ c, 0, true, e⟩])
    | none => False
  | .vsl len cs cx => cs.length = len * sz ∧ (len + m) * by' ≤ 140737488355328 ∧ len + m ≤ 9223372036854775807 ∧ (match cx with | some n => n < len + m ∨ (len = 0 ∧ n = 0) | none => False) ∧
      K (.sl H.length 0 0 (len + m) (len + m) sz false) (H ++ [⟨cs ++ c, 0, true, e⟩])
  | _ => False
/-- A block of which nothing lies in the machine. -/
theorem Rel.ghost (r : Rel G σ H w) (k : Blk) : Rel G σ (H ++ [k]) w ∧ Ext σ H w σ (H ++ [k]) w := by
  have hget : ∀ (b : Nat) (k' : Blk) (ver : Nat) (l : Loc), (H ++ [k])[b]? = some k' → σ.ρ b ver = some l → H[b]? = some k' := by
    intro b k' ver l h1 h2
    rw [List.getElem?_append] at h1
    split at h1
    · exact h1
    · have : b = H.length := by
        rcases Nat.lt_or_ge (b - H.length) 1 with h3 | h3
        · omega
        · rw [List.getElem?_eq_none (by simpa using h3)] at h1
          cases h1
      subst this
      rw [r.free] at h2
      cases h2
  refine ⟨⟨fun b k' l h1 h2 h3 => r.blk b k' l (hget _ _ _ _ h1 h3) h2 h3, fun b1 b2 k1 k2 l1 l2 h1 h2 h3 g1 g2 g3 => r.inj b1 b2 k1 k2 l1 l2 (hget _ _ _ _ h1 h3) h2 h3 (hget _ _ _ _ g1 g3) g2 g3,
    fun b k' l h1 h2 h3 => r.apart b k' l (hget _ _ _ _ h1 h3) h2 h3, r.roLt, fun b ver l h => ?_, r.glob, r.base0⟩,
    ⟨rfl, rfl, rfl, Nat.le_refl _, fun _ _ _ h => h, fun _ h => h, fun _ _ _ => rfl, fun _ _ _ h => .inl h, fun b k' l h h1 h2 => ⟨k', hget _ _ _ _ h h2, h1, rfl⟩, fun _ h => .inl h, by simp⟩⟩
  obtain ⟨k0, a1, a2⟩ := r.fresh b ver l h
  exact ⟨k0, by rw [List.getElem?_append_left (List.getElem?_eq_some_iff.1 a1).1]; exact a1, a2⟩
/-- A later version, of which nothing lies in the machine. -/
theorem Rel.ghostBump (r : Rel G σ H w) {b : Nat} {k : Blk} (hk : H[b]? = some k) (k' : Blk) (hv : k.ver < k'.ver) : Rel G σ (H.set b k') w ∧ Ext σ H w σ (H.set b k') w := by
  have hlt : b < H.length := (List.getElem?_eq_some_iff.1 hk).1
  have hget : ∀ (b' : Nat) (k1 : Blk) (l : Loc), (H.set b k')[b']? = some k1 → σ.ρ b' k1.ver = some l → H[b']? = some k1 := by
    intro b' k1 l h1 h2
    rw [List.getElem?_set] at h1
    split at h1
    · rename_i e
      subst e
      try rw [if_pos hlt] at h1
      cases h1
      rw [r.later hk hv] at h2
      cases h2
    · exact h1
  refine ⟨⟨fun b' k1 l h1 h2 h3 => r.blk b' k1 l (hget _ _ _ h1 h3) h2 h3, fun b1 b2 k1 k2 l1 l2 h1 h2 h3 g1 g2 g3 => r.inj b1 b2 k1 k2 l1 l2 (hget _ _ _ h1 h3) h2 h3 (hget _ _ _ g1 g3) g2 g3,
    fun b' k1 l h1 h2 h3 => r.apart b' k1 l (hget _ _ _ h1 h3) h2 h3, r.roLt, fun b' ver l h => ?_, r.glob, r.base0⟩,
    ⟨rfl, rfl, rfl, Nat.le_refl _, fun _ _ _ h => h, fun _ h => h, fun _ _ _ => rfl, fun _ _ _ h => .inl h, fun b' k1 l h h1 h2 => ⟨k1, hget _ _ _ h h2, h1, rfl⟩, fun _ h => .inl h, by simp⟩⟩
  obtain ⟨k0, a1, a2⟩ := r.fresh b' ver l h
  by_cases e : b' = b
  · subst e
    rw [hk] at a1
    cases a1
    exact ⟨_, List.getElem?_set_self hlt, by omega⟩
  · exact ⟨k0, by rw [List.getElem?_set_ne (fun e' => e e'.symm)]; exact a1, a2⟩
theorem splice_nil (cs : List AV) (off : Nat) : splice cs off [] = cs := by simp [splice]
theorem set_same {b : Nat} {k : Blk} (h : H[b]? = some k) : H.set b k = H := by
  apply List.ext_getElem?
  intro j
  rw [List.getElem?_set]
  split
  · rename_i e
    subst e
    have hlt := (List.getElem?_eq_some_iff.1 h).1
    simp only [hlt, if_true]
    exact h.symm
  · rfl
theorem getD_lt {us : Array Value} {j : Nat} (h : j < us.size) : us[j]? = some (us.getD j undef) := by simp [h]
/-- The grown row: where it lies anew. -/
theorem grown_cells {olds news z : Array Value} {n m sz cap : Nat} {e : TypeId} {c0 c1 : List AV} (h1 : olds.size = n * sz) (h2 : news.size = m * sz) (hz : z.size = sz) (hcap : n + m ≤ cap) (l0 : c0.length = n * sz) (l1 : c1.length = m * sz)
    (a0 : ∀ j, j < n * sz → AR σ w (c0.getD j .any) (olds.getD j undef)) (a1 : ∀ j, j < m * sz → AR σ w (c1.getD j .any) (news.getD j undef)) :
    (olds ++ news ++ Builtin.zeroCells z (cap - (n + m))).size = cap * sz ∧ (c0 ++ c1).length ≤ (olds ++ news ++ Builtin.zeroCells z (cap - (n + m))).size ∧
      ∀ j, j < (c0 ++ c1).length → ∃ u, (olds ++ news ++ Builtin.zeroCells z (cap - (n + m)))[j]? = some u ∧ AR σ w ((c0 ++ c1).getD j .any) u := by
  have hs : (olds ++ news ++ Builtin.zeroCells z (cap - (n + m))).size = cap * sz := by
    simp only [Array.size_append, size_zeroCells, h1, h2, hz, ← Nat.add_mul]
    congr 1
    omega
  have hle : (n + m) * sz ≤ cap * sz := Nat.mul_le_mul_right _ hcap
  rw [Nat.add_mul] at hle
  refine ⟨hs, by rw [hs, List.length_append, l0, l1]; exact hle, fun j hj => ?_⟩
  rw [List.length_append, l0, l1] at hj
  rw [Array.append_assoc, Array.getElem?_append, List.getD_eq_getElem?_getD, List.getElem?_append, l0, h1]
  by_cases hjn : j < n * sz
  · rw [if_pos hjn, if_pos hjn, ← List.getD_eq_getElem?_getD]
    exact ⟨_, getD_lt (by omega), a0 j hjn⟩
  · rw [if_neg hjn, if_neg hjn, Array.getElem?_append, if_pos (by omega), ← List.getD_eq_getElem?_getD]
    exact ⟨_, getD_lt (by omega), a1 (j - n * sz) (by omega)⟩
theorem Res.of {q : Bool} {r : AV} {H' : AHeap} {u : Value} {w' : World} {σ' : Sig} (h1 : AR σ' w' r u) (h2 : Rel G σ' H' w') (h3 : Ext σ H w σ' H' w') (h4 : q = true → Quiet σ H w σ' w') : Res G q σ H w r H' u w' := ⟨σ', h1, h2, h3, h4⟩
theorem drewRel (r : Rel G σ H w) : Rel G σ H w.drew := Rel.drew (w := w) (w' := w.drew) rfl r
theorem drewAR {x : AV} {u : Value} (h : AR σ w x u) : AR σ w.drew x u := AR.drew (w := w) (w' := w.drew) rfl h
theorem drewExt : Ext σ H w σ H w.drew := Ext.drew rfl rfl rfl rfl
/-- A grown row, in a new block. -/
theorem far_new (r : Rel G σ H w) {olds news z : Array Value} {n m sz cap : Nat} {e : TypeId} {c0 c1 : List AV} (h1 : olds.size = n * sz) (h2 : news.size = m * sz) (hz : z.size = sz) (hcap : n + m ≤ cap) (l0 : c0.length = n * sz) (l1 : c1.length = m * sz)
    (a0 : ∀ j, j < n * sz → AR σ w (c0.getD j .any) (olds.getD j undef)) (a1 : ∀ j, j < m * sz → AR σ w (c1.getD j .any) (news.getD j undef)) :
    Res G true σ H w (.sl H.length 0 0 (n + m) (n + m) sz false) (H ++ [⟨c0 ++ c1, 0, true, e⟩]) (.slice (some ⟨w.heap.size, 0, none⟩) (n + m) cap) (w.drew.alloc (.cells (olds ++ news ++ Builtin.zeroCells z (cap - (n + m))) e)) := by
  obtain ⟨g1, g2, g3⟩ := grown_cells (e := e) h1 h2 hz hcap l0 l1 a0 a1
  obtain ⟨p1, p2, p3⟩ := (drewRel r).push (c0 ++ c1) _ e (0, 0) (.inr rfl) g2 (fun j hj => by
    obtain ⟨u, b1, b2⟩ := g3 j hj
    rw [Array.getD_eq_getD_getElem?, b1]
    exact drewAR b2)
  refine Res.of ?_ p1 (drewExt.trans p2) (fun _ => ⟨fun B hB => .same (RowKit.Below.heap_alloc _ _ _ (by exact hB)), push_keys⟩)
  exact AR.sl (l := ⟨w.drew.heap.size, 0, (olds ++ news ++ Builtin.zeroCells z (cap - (n + m))).size⟩) (if_pos ⟨rfl, rfl⟩) hcap (fun h => by cases h) (by simp only [Nat.zero_add]; rw [g1]; exact Nat.le_refl _)
/-- A grown row, in a new block, under its old name. -/
theorem far_bump (r : Rel G σ H w) {b : Nat} {k : Blk} (hk : H[b]? = some k) (hlv : k.live = true) {olds news z : Array Value} {n m sz cap : Nat} {e : TypeId} {c0 c1 : List AV} (h1 : olds.size = n * sz) (h2 : news.size = m * sz) (hz : z.size = sz) (hcap : n + m ≤ cap)
    (l0 : c0.length = n * sz) (l1 : c1.length = m * sz) (a0 : ∀ j, j < n * sz → AR σ w (c0.getD j .any) (olds.getD j undef)) (a1 : ∀ j, j < m * sz → AR σ w (c1.getD j .any) (news.getD j undef)) :
    Res G false σ H w (.sl b (k.ver + 1) 0 (n + m) (n + m) sz false) (H.set b ⟨c0 ++ c1, k.ver + 1, true, e⟩) (.slice (some ⟨w.heap.size, 0, none⟩) (n + m) cap) (w.drew.alloc (.cells (olds ++ news ++ Builtin.zeroCells z (cap - (n + m))) e)) := by
  obtain ⟨g1, g2, g3⟩ := grown_cells (e := e) h1 h2 hz hcap l0 l1 a0 a1
  obtain ⟨p1, p2, p3⟩ := (drewRel r).bump hk hlv (C := olds ++ news ++ Builtin.zeroCells z (cap - (n + m))) (T := e) (fr := (0, 0)) (w' := w.drew.alloc (.cells (olds ++ news ++ Builtin.zeroCells z (cap - (n + m))) e)) (c0 ++ c1)
    ⟨w.heap.size, 0, (olds ++ news ++ Builtin.zeroCells z (cap - (n + m))).size⟩ (heap_alloc_new w.drew _) rfl (by simpa using g2) (.inr rfl)
    (fun j hj => by
      obtain ⟨u, b1, b2⟩ := g3 j hj
      exact ⟨u, by simpa using b1, drewAR b2⟩) (.inl (Nat.le_refl _)) rfl (fun B hB _ => RowKit.Below.heap_alloc _ _ _ hB) (by simp) rfl rfl rfl
  refine Res.of ?_ p1 (drewExt.trans p2) (fun h => by cases h)
  exact AR.sl (l := ⟨w.heap.size, 0, (olds ++ news ++ Builtin.zeroCells z (cap - (n + m))).size⟩) (if_pos ⟨rfl, rfl⟩) hcap (fun h => by cases h) (by simp only [Nat.zero_add]; rw [g1]; exact Nat.le_refl _)
end Go.Abs
namespace Go.Abs
set_option linter.unusedVariables false
set_option linter.unusedSimpArgs false
variable {P : Program} {G : Glob} {σ : Sig} {H : AHeap} {w : World}
theorem firstCells_zero {sz n c : Nat} {A : Option Addr} : (Builtin.firstCells sz 0 (.slice A n c)).run P w = .ok #[] w := by
  cases A <;> simp [Builtin.firstCells, loadCells, loadCellsFrom]
theorem size_zero {us : Array Value} {sz : Nat} (h : us.size = 0 * sz) : us = #[] := Array.eq_empty_of_size_eq_zero (by simpa using h)
theorem len_zero {cs : List AV} {sz : Nat} (h : cs.length = 0 * sz) : cs = [] := List.eq_nil_of_length_eq_zero (by simpa using h)
/-- A grown row, where it lay. -/
theorem near_bump (r : Rel G σ H w) {b : Nat} {k : Blk} {l : Loc} (hk : H[b]? = some k) (hlv : k.live = true) (hl : σ.ρ b k.ver = some l) {news : Array Value} {off n m sz cap : Nat} {c1 : List AV} (h2 : news.size = m * sz)
    (hc0 : off + n * sz ≤ k.cells.length) (ho : off = 0) (hcap : n + m ≤ cap) (hlim : l.base + off + cap * sz ≤ l.lim) (l1 : c1.length = m * sz) (h1 : c1.all AV.one = true) (a1 : ∀ j, j < m * sz → AR σ w (c1.getD j .any) (news.getD j undef)) :
    ∃ w', (storeCells ((⟨l.B, l.base + off, none⟩ : Addr).add (n * sz)) news.toList).run P w = .ok () w' ∧
      Res G false σ H w (.sl b (k.ver + 1) 0 (n + m) (n + m) sz false) (H.set b ⟨(k.cells.drop off).take (n * sz) ++ c1, k.ver + 1, true, k.elem⟩) (.slice (some ⟨l.B, l.base + off, none⟩) (n + m) cap) w' := by
  obtain ⟨C, fr, g1, g2, g3, g4, g5⟩ := r.blk b k l hk hlv hl
  have hle : (n + m) * sz ≤ cap * sz := Nat.mul_le_mul_right _ hcap
  rw [Nat.add_mul] at hle
  have hone : ∀ v ∈ news.toList, v.oneCell' = true := ones_of (σ := σ) (w := w) h1 (by simp [h2, l1]) (fun j hj => by
    have := a1 j (by omega)
    simpa [List.getD_eq_getElem?_getD] using this)
  obtain ⟨w', C', e1, e2, e3, e4, e5, e6, e7, e8, e9⟩ := run_storeCells_blk (P := P) (o := l.base + off + n * sz) news.toList 0 C w g1 (by simp only [Array.length_toList]; omega) (by rw [g2]; exact g4) hone
  refine ⟨w', by rw [Addr.add_lit]; exact e1, ?_⟩
  have hlen0 : ((k.cells.drop off).take (n * sz)).length = n * sz := by rw [List.length_take, List.length_drop]; omega
  obtain ⟨p1, p2, p3⟩ := r.bump hk hlv (C := C') (T := k.elem) (fr := fr) (w' := w') ((k.cells.drop off).take (n * sz) ++ c1) ⟨l.B, l.base + off, l.lim⟩ e2 (e3.trans g2) (by show l.base + off + _ ≤ l.lim; rw [List.length_append, hlen0]; omega) g4
    (fun j hj => by
      rw [List.length_append, hlen0] at hj
      rw [e4, List.getD_eq_getElem?_getD, List.getElem?_append, hlen0]
      simp only [Array.length_toList, h2]
      by_cases hjn : j < n * sz
      · rw [if_neg (by omega), if_pos hjn, List.getElem?_take, if_pos hjn, List.getElem?_drop, ← List.getD_eq_getElem?_getD, Nat.add_assoc]
        exact g5 (off + j) (by omega)
      · rw [if_pos (by omega), if_neg hjn, ← List.getD_eq_getElem?_getD, show l.base + off + j - (l.base + off + n * sz + 0) = j - n * sz from by omega, Array.getElem?_toList]
        exact ⟨_, getD_lt (by omega), a1 (j - n * sz) (by omega)⟩)
    (.inr ⟨l, hl, rfl⟩) (by show l.base + off = 0; have := r.base0 _ _ _ hl; omega) (fun B _ hB => e5 B hB) (by rw [e6]; exact Nat.le_refl _) e7 e8 e9
  refine Res.of ?_ p1 p2 (fun h => by cases h)
  exact AR.sl (l := ⟨l.B, l.base + off, l.lim⟩) (if_pos ⟨rfl, rfl⟩) hcap (fun h => by cases h) (by simpa using hlim)
/-- What is appended to a slice that has no more room lies anew. -/
theorem append_new {t u ty : TypeId} {i : TypeInfo} {z : Value} {b off len cap m : Nat} {k : Blk} {c : List AV} {us ux : Value} (r : Rel G σ H w) (ht : P.underlying t = some (.slice k.elem)) (hu : Row P u) (hi : P.info? k.elem = some i) (hz : i.zero = some z) (hzs : z.cells.size = i.size)
    (hk' : H[b]? = some k) (hlv : k.live = true) (hoff : off + len * i.size ≤ k.cells.length) (h63 : len + m ≤ 9223372036854775807) (hb : (len + m) * i.bytes ≤ 140737488355328) (hcl : c.length = m * i.size) (hcap : cap < len + m ∨ cap = 0)
    (hs : AR σ w (.sl b k.ver off len cap i.size true) us) (hx : ∃ news : Array Value, news.size = m * i.size ∧ (∀ j, j < m * i.size → AR σ w (c.getD j .any) (news.getD j undef)) ∧ (∀ w' : World, (Builtin.lenOf ux).run P w' = .ok m w') ∧ (∀ w' : World, w'.heap = w.heap → (Builtin.firstCells i.size m ux).run P w' = .ok news w')) :
    ∃ v w', (Builtin.append_ #[t, u] ty #[us, ux]).run P w = .ok v w' ∧ Res G true σ H w (.sl H.length 0 0 (len + m) (len + m) i.size false) (H ++ [⟨(k.cells.drop off).take (len * i.size) ++ c, 0, true, k.elem⟩]) v w' := by
  obtain ⟨news, n1, n2, n3, n4⟩ := hx
  have hl0 : ((k.cells.drop off).take (len * i.size)).length = len * i.size := by rw [List.length_take, List.length_drop]; omega
  have none0 : ∀ (A : Option Addr), len = 0 → m = 0 → ∃ v w', (Builtin.append_ #[t, u] ty #[.slice A len 0, ux]).run P w = .ok v w' ∧ Res G true σ H w (.sl H.length 0 0 (len + m) (len + m) i.size false) (H ++ [⟨(k.cells.drop off).take (len * i.size) ++ c, 0, true, k.elem⟩]) v w' := by
    rintro A rfl rfl
    obtain ⟨g1, g2⟩ := r.ghost ⟨(k.cells.drop off).take (0 * i.size) ++ c, 0, true, k.elem⟩
    have hn := size_zero n1
    subst hn
    cases A with
    | none => exact ⟨_, _, run_append_none t u ty k.elem i ht hu hi ux #[] 0 0 (n3 w) (n4 w rfl) (Nat.le_refl _), Res.of (.sl0 _) g1 g2 (fun h => ⟨fun _ _ => .same rfl, fun _ _ _ h => .inl h⟩)⟩
    | some a => exact ⟨_, _, run_append_near t u ty k.elem i ht hu hi a 0 0 0 ux #[] (n3 w) (n4 w rfl) (Nat.le_refl _) w (by simp [storeCells]), Res.of (.sl0 _) g1 g2 (fun h => ⟨fun _ _ => .same rfl, fun _ _ _ h => .inl h⟩)⟩
  cases hs with
  | @sl _ _ _ _ _ cap' _ _ l h h1 h2 h3 =>
    have hce := h2 rfl
    subst hce
    by_cases hlt : cap' < len + m
    · obtain ⟨olds, o1, o2, o3⟩ := run_cells_mem (P := P) (r.mem hk' hlv h) off (len * i.size) hoff
      exact ⟨_, _, run_append_far (w := w) t u ty k.elem i z ht hu hi hz (some ⟨l.B, l.base + off, none⟩) len cap' m ux olds news (n3 w) (fun w' hw => by simpa [Builtin.firstCells] using o3 w' hw) n4 (by omega) (by omega) hb,
        far_new r o1 n1 hzs (grownCap_ge w (len + m) cap' k.elem) hl0 hcl (fun j hj => ar_take hoff o2 j (by omega)) n2⟩
    · have hc0 : cap' = 0 := by omega
      subst hc0
      exact none0 _ (by omega) (by omega)
  | sl0 A =>
    by_cases hm : m = 0
    · exact none0 A rfl hm
    · exact ⟨_, _, run_append_far (w := w) t u ty k.elem i z ht hu hi hz A 0 0 m ux #[] news (n3 w) (fun w' _ => firstCells_zero) n4 (by omega) (by omega) (by simpa using hb),
        far_new r (by simp) n1 hzs (grownCap_ge w (0 + m) 0 k.elem) hl0 hcl (fun j hj => by simp at hj) n2⟩
theorem append_newV {t u ty e : TypeId} {i : TypeInfo} {z : Value} {len m : Nat} {cs c : List AV} {cx : Option Nat} {us ux : Value} (r : Rel G σ H w) (ht : P.underlying t = some (.slice e)) (hu : Row P u) (hi : P.info? e = some i) (hz : i.zero = some z) (hzs : z.cells.size = i.size)
    (hl : cs.length = len * i.size) (hb : (len + m) * i.bytes ≤ 140737488355328) (h63 : len + m ≤ 9223372036854775807) (hcx : match cx with | some n => n < len + m ∨ (len = 0 ∧ n = 0) | none => False) (hcl : c.length = m * i.size)
    (hs : AR σ w (.vsl len cs cx) us) (hx : ∃ news : Array Value, news.size = m * i.size ∧ (∀ j, j < m * i.size → AR σ w (c.getD j .any) (news.getD j undef)) ∧ (∀ w' : World, (Builtin.lenOf ux).run P w' = .ok m w') ∧ (∀ w' : World, w'.heap = w.heap → (Builtin.firstCells i.size m ux).run P w' = .ok news w')) :
    ∃ v w', (Builtin.append_ #[t, u] ty #[us, ux]).run P w = .ok v w' ∧ Res G true σ H w (.sl H.length 0 0 (len + m) (len + m) i.size false) (H ++ [⟨cs ++ c, 0, true, e⟩]) v w' := by
  obtain ⟨news, n1, n2, n3, n4⟩ := hx
  have far : ∀ (A : Option Addr) (cap' : Nat) (olds : Array Value), olds.size = len * i.size → (∀ j, j < len * i.size → AR σ w (cs.getD j .any) (olds.getD j undef)) → (∀ w' : World, w'.heap = w.heap → (Builtin.firstCells i.size len (.slice A len cap')).run P w' = .ok olds w') → cap' < len + m →
      ∃ v w', (Builtin.append_ #[t, u] ty #[.slice A len cap', ux]).run P w = .ok v w' ∧ Res G true σ H w (.sl H.length 0 0 (len + m) (len + m) i.size false) (H ++ [⟨cs ++ c, 0, true, e⟩]) v w' :=
    fun A cap' olds o1 o2 o3 hlt => ⟨_, _, run_append_far (w := w) t u ty e i z ht hu hi hz A len cap' m ux olds news (n3 w) o3 n4 hlt (by omega) hb, far_new r o1 n1 hzs (grownCap_ge w (len + m) cap' e) hl hcl o2 n2⟩
  have none0 : ∀ (A : Option Addr), len = 0 → m = 0 → ∃ v w', (Builtin.append_ #[t, u] ty #[.slice A len 0, ux]).run P w = .ok v w' ∧ Res G true σ H w (.sl H.length 0 0 (len + m) (len + m) i.size false) (H ++ [⟨cs ++ c, 0, true, e⟩]) v w' := by
    rintro A rfl rfl
    obtain ⟨g1, g2⟩ := r.ghost ⟨cs ++ c, 0, true, e⟩
    have hn := size_zero n1
    subst hn
    cases A with
    | none => exact ⟨_, _, run_append_none t u ty e i ht hu hi ux #[] 0 0 (n3 w) (n4 w rfl) (Nat.le_refl _), Res.of (.sl0 _) g1 g2 (fun h => ⟨fun _ _ => .same rfl, fun _ _ _ h => .inl h⟩)⟩
    | some a => exact ⟨_, _, run_append_near t u ty e i ht hu hi a 0 0 0 ux #[] (n3 w) (n4 w rfl) (Nat.le_refl _) w (by simp [storeCells]), Res.of (.sl0 _) g1 g2 (fun h => ⟨fun _ _ => .same rfl, fun _ _ _ h => .inl h⟩)⟩
  cases hs with
  | @vsl _ _ _ B o c' uu hr hm ha hle hx' =>
    cases cx with
    | none => exact hcx.elim
    | some n =>
      have hcn := hx' n rfl
      subst hcn
      obtain ⟨olds, o1, o2, o3⟩ := run_cells_mem (P := P) (Mem.of_fun hm ha) 0 (len * i.size) (by omega)
      by_cases hlt : c' < len + m
      · exact far _ _ olds o1 (fun j hj => by simpa using o2 j hj) (fun w' hw => by simpa [Builtin.firstCells] using o3 w' hw) hlt
      · rcases hcx with h | ⟨h1, h2⟩
        · exact absurd h hlt
        · subst h2
          exact none0 _ h1 (by omega)
  | vsl0 A c' hx' =>
    cases cx with
    | none => exact hcx.elim
    | some n =>
      have hcn := hx' n rfl
      subst hcn
      by_cases hlt : c' < 0 + m
      · exact far _ _ #[] (by simp) (fun j hj => by simp at hj) (fun w' hw => firstCells_zero) hlt
      · rcases hcx with h | ⟨h1, h2⟩
        · exact absurd h hlt
        · subst h2
          exact none0 _ h1 (by omega)
set_option maxHeartbeats 1000000 in
theorem append_ok (G : Glob) {t u ty e : TypeId} {i : TypeInfo} {z : Value} (ht : P.underlying t = some (.slice e)) (hu : Row P u) (hi : P.info? e = some i) (hz : i.zero = some z) (hzs : z.cells.size = i.size) {s x : AV} {K : AV → AHeap → Prop}
    (hc : acont H i.size x fun m c => aapp P H e i.size i.bytes s m c K) :
    ∃ r H', K r H' ∧ ∀ (σ : Sig) (w : World) (us ux : Value), Rel G σ H w → AR σ w s us → AR σ w x ux → ∃ v w', (Builtin.append_ #[t, u] ty #[us, ux]).run P w = .ok v w' ∧ Res G false σ H w r H' v w' := by
  obtain ⟨m, c, hs, hcl, hx⟩ := acont_ok (P := P) G hc
  clear hc
  have toF : ∀ {σ : Sig} {w : World} {r : AV} {H' : AHeap} {v : Value} {w' : World}, Res G true σ H w r H' v w' → Res G false σ H w r H' v w' := fun ⟨σ', a, b, c, _⟩ => ⟨σ', a, b, c, fun h => by cases h⟩
  cases s with
  | v y =>
    unfold aapp at hs
    split at hs
    · rename_i e1
      cases e1
      obtain ⟨hb, h63, hK⟩ := hs
      refine ⟨_, _, hK, fun σ w us ux r hs hxr => ?_⟩
      obtain ⟨news, n1, n2, n3, n4⟩ := hx σ w ux r hxr
      cases hs
      rcases Nat.eq_zero_or_pos m with rfl | hm
      · obtain ⟨g1, g2⟩ := r.ghost ⟨c, 0, true, e⟩
        exact ⟨_, _, run_append_none t u ty e i ht hu hi ux news 0 0 (n3 w) (n4 w rfl) (Nat.le_refl _), Res.of (.sl0 _) g1 g2 (fun h => by cases h)⟩
      · refine ⟨_, _, run_append_far (w := w) t u ty e i z ht hu hi hz none 0 0 m ux #[] news (n3 w) (fun w' _ => firstCells_zero) n4 (by omega) (by omega) (by simpa using hb), ?_⟩
        have := toF (far_new (olds := #[]) (n := 0) (sz := i.size) (e := e) (c0 := []) r (by simp) n1 hzs (grownCap_ge w (0 + m) 0 e) (by simp) hcl (fun j hj => by simp at hj) n2)
        simpa using this
    · rename_i e1
      cases e1
    · rename_i e1
      cases e1
    · rename_i e1
      cases e1
    · exact hs.elim
  | vsl len cs cx =>
    obtain ⟨hl, hb, h63, hif⟩ := hs
    by_cases h0 : m = 0 ∧ 0 < len
    · rw [if_pos h0] at hif
      refine ⟨_, _, hif, fun σ w us ux r hs hxr => ?_⟩
      obtain ⟨news, n1, n2, n3, n4⟩ := hx σ w ux r hxr
      obtain ⟨rfl, hlen⟩ := h0
      have hn := size_zero n1
      subst hn
      cases hs with
      | @vsl _ _ _ B o c' uf hr hm ha hl2 hx2 =>
        exact ⟨_, _, run_append_near t u ty e i ht hu hi ⟨B, o, none⟩ len c' 0 ux #[] (n3 w) (n4 w rfl) (by omega) w (by simp [storeCells]), Res.same r (.vsl B o c' uf hr hm ha hl2 hx2)⟩
      | vsl0 A c' hx2 => omega
    · rw [if_neg h0] at hif
      obtain ⟨hcx, hK⟩ := hif
      refine ⟨_, _, hK, fun σ w us ux r hs hxr => ?_⟩
      obtain ⟨v, w', h1, h2⟩ := append_newV (P := P) (ty := ty) r ht hu hi hz hzs hl hb h63 hcx hcl hs (hx σ w ux r hxr)
      exact ⟨v, w', h1, toF h2⟩
  | sl b ver off len cap sz' x =>
    obtain ⟨rfl, hb, h63, hk⟩ := hs
    cases hk' : H[b]? with
    | none => simp [hk'] at hk
    | some k =>
      simp only [hk'] at hk
      obtain ⟨hlv, rfl, rfl, hoff, hK⟩ := hk
      have hl0 : ((k.cells.drop off).take (len * i.size)).length = len * i.size := by rw [List.length_take, List.length_drop]; omega
      cases x with
      | false =>
        obtain ⟨ho, hone, hK⟩ := hK
        refine ⟨_, _, hK, fun σ w us ux r hs hxr => ?_⟩
        obtain ⟨news, n1, n2, n3, n4⟩ := hx σ w ux r hxr
        cases hs with
        | @sl _ _ _ _ _ cap' _ _ l h h1 h2 h3 =>
          by_cases hlt : cap' < len + m
          · obtain ⟨olds, o1, o2, o3⟩ := run_cells_mem (P := P) (r.mem hk' hlv h) off (len * i.size) hoff
            exact ⟨_, _, run_append_far (w := w) t u ty k.elem i z ht hu hi hz (some ⟨l.B, l.base + off, none⟩) len cap' m ux olds news (n3 w) (fun w' hw => by simpa [Builtin.firstCells] using o3 w' hw) n4 hlt (by omega) hb,
              far_bump r hk' hlv o1 n1 hzs (grownCap_ge w (len + m) cap' k.elem) hl0 hcl (fun j hj => ar_take hoff o2 j (by omega)) n2⟩
          · obtain ⟨w', s1, s2⟩ := near_bump (P := P) r hk' hlv h n1 hoff ho (show len + m ≤ cap' by omega) h3 hcl hone n2
            exact ⟨_, _, run_append_near t u ty k.elem i ht hu hi ⟨l.B, l.base + off, none⟩ len cap' m ux news (n3 w) (n4 w rfl) (by omega) w' s1, s2⟩
        | sl0 A =>
          by_cases hm : m = 0
          · subst hm
            obtain ⟨g1, g2⟩ := r.ghostBump hk' ⟨(k.cells.drop off).take (0 * i.size) ++ c, k.ver + 1, true, k.elem⟩ (Nat.lt_succ_self _)
            have hn := size_zero n1
            subst hn
            cases A with
            | none => exact ⟨_, _, run_append_none t u ty k.elem i ht hu hi ux #[] 0 0 (n3 w) (n4 w rfl) (Nat.le_refl _), Res.of (.sl0 _) g1 g2 (fun h => by cases h)⟩
            | some a => exact ⟨_, _, run_append_near t u ty k.elem i ht hu hi a 0 0 0 ux #[] (n3 w) (n4 w rfl) (Nat.le_refl _) w (by simp [storeCells]), Res.of (.sl0 _) g1 g2 (fun h => by cases h)⟩
          · exact ⟨_, _, run_append_far (w := w) t u ty k.elem i z ht hu hi hz A 0 0 m ux #[] news (n3 w) (fun w' _ => firstCells_zero) n4 (by omega) (by omega) (by simpa using hb),
              far_bump r hk' hlv (by simp) n1 hzs (grownCap_ge w (0 + m) 0 k.elem) hl0 hcl (fun j hj => by simp at hj) n2⟩
      | true =>
        by_cases hcap : len + m ≤ cap ∧ 0 < cap
        · rw [if_pos hcap] at hK
          obtain ⟨hoc, hone, hK⟩ := hK
          refine ⟨_, _, hK, fun σ w us ux r hs hxr => ?_⟩
          obtain ⟨news, n1, n2, n3, n4⟩ := hx σ w ux r hxr
          obtain ⟨hcap, hcap0⟩ := hcap
          have hle : (len + m) * i.size ≤ cap * i.size := Nat.mul_le_mul_right _ hcap
          rw [Nat.add_mul] at hle
          have hou : ∀ v ∈ news.toList, v.oneCell' = true := ones_of (σ := σ) (w := w) hone (by simp [n1, hcl]) (fun j hj => by
            have := n2 j (by omega)
            simpa [List.getD_eq_getElem?_getD] using this)
          cases hs with
          | @sl _ _ _ _ _ cap' _ _ l h h1 h2 h3 =>
            have hce := h2 rfl
            subst hce
            obtain ⟨w', s1, s2, s3, s4⟩ := r.store (P := P) hk' hlv h (off + len * i.size) c news.toList (by simp [n1, hcl]) (by omega) hou (fun j hj => by
              have := n2 j (by omega)
              simpa [List.getD_eq_getElem?_getD] using this)
            exact ⟨_, _, run_append_near t u ty k.elem i ht hu hi ⟨l.B, l.base + off, none⟩ len cap' m ux news (n3 w) (n4 w rfl) hcap w' (by rw [Addr.add_lit, Nat.add_assoc]; exact s1), Res.of (s4 _ _ (.sl h (Nat.le_refl _) (fun _ => rfl) h3)) s2 s3 (fun h => by cases h)⟩
          | sl0 A =>
            obtain rfl : m = 0 := by omega
            have hn := size_zero n1
            subst hn
            have hcn := len_zero hcl
            subst hcn
            have hset : H.set b { k with cells := splice k.cells (off + 0 * i.size) [] } = H := by
              rw [splice_nil]
              exact set_same hk'
            rw [hset]
            cases A with
            | none => exact ⟨_, _, run_append_none t u ty k.elem i ht hu hi ux #[] 0 0 (n3 w) (n4 w rfl) (Nat.le_refl _), Res.same r (.sl0 _)⟩
            | some a => exact ⟨_, _, run_append_near t u ty k.elem i ht hu hi a 0 0 0 ux #[] (n3 w) (n4 w rfl) (Nat.le_refl _) w (by simp [storeCells]), Res.same r (.sl0 _)⟩
        · rw [if_neg hcap] at hK
          refine ⟨_, _, hK, fun σ w us ux r hs hxr => ?_⟩
          obtain ⟨v, w', h1, h2⟩ := append_new (P := P) (ty := ty) r ht hu hi hz hzs hk' hlv hoff h63 hb hcl (by omega) hs (hx σ w ux r hxr)
          exact ⟨v, w', h1, toF h2⟩
  | bsl b ver n =>
    obtain ⟨hsz1, hb, h63, hk⟩ := hs
    cases hk' : H[b]? with
    | none => simp [hk'] at hk
    | some k =>
      simp only [hk'] at hk
      obtain ⟨hlv, rfl, rfl, hn, hone, hK⟩ := hk
      have hoff : 0 + n * i.size ≤ k.cells.length := by rw [hsz1]; omega
      have e1 : k.cells.take n = (k.cells.drop 0).take (n * i.size) := by rw [hsz1, Nat.mul_one, List.drop_zero]
      have hl0 : ((k.cells.drop 0).take (n * i.size)).length = n * i.size := by rw [List.length_take, List.length_drop]; omega
      have toB : ∀ {σ : Sig} {w : World} {A : Option Addr} {N c : Nat} {w' : World} {H' : AHeap}, 0 < c → Res G false σ H w (.sl b (k.ver + 1) 0 (n + m) (n + m) i.size false) H' (.slice A N c) w' → Res G false σ H w (.bsl b (k.ver + 1) (n + m)) H' (.slice A N c) w' := by
        rintro σ w A N c w' H' h0 ⟨σ', a, c, d, e⟩
        refine ⟨σ', ?_, c, d, e⟩
        generalize hq : n + m = q at *
        cases a with
        | @sl _ _ _ _ _ cap' _ _ l hρ g1 g2 g3 =>
          rw [hsz1, Nat.mul_one, Nat.add_zero] at g3
          simpa using AR.bsl hρ h0 g1 g3
        | sl0 A => omega
      rw [e1] at hK
      refine ⟨_, _, hK, fun σ w us ux r hs hxr => ?_⟩
      obtain ⟨news, n1, n2, n3, n4⟩ := hx σ w ux r hxr
      cases hs with
      | bsl0 =>
        by_cases hm : m = 0
        · subst hm
          obtain ⟨g1, g2⟩ := r.ghostBump hk' ⟨(k.cells.drop 0).take (0 * i.size) ++ c, k.ver + 1, true, k.elem⟩ (Nat.lt_succ_self _)
          have hn := size_zero n1
          subst hn
          exact ⟨_, _, run_append_none t u ty k.elem i ht hu hi ux #[] 0 0 (n3 w) (n4 w rfl) (Nat.le_refl _), Res.of .bsl0 g1 g2 (fun h => by cases h)⟩
        · exact ⟨_, _, run_append_far (w := w) t u ty k.elem i z ht hu hi hz none 0 0 m ux #[] news (n3 w) (fun w' _ => firstCells_zero) n4 (by omega) (by omega) (by simpa using hb),
            toB (Nat.lt_of_lt_of_le (by omega) (grownCap_ge w (0 + m) 0 k.elem)) (far_bump r hk' hlv (by simp) n1 hzs (grownCap_ge w (0 + m) 0 k.elem) hl0 hcl (fun j hj => by simp at hj) n2)⟩
      | @bsl _ _ _ cap' l h h0 h1 h3 =>
        by_cases hlt : cap' < n + m
        · obtain ⟨olds, o1, o2, o3⟩ := run_cells_mem (P := P) (r.mem hk' hlv h) 0 (n * i.size) hoff
          exact ⟨_, _, run_append_far (w := w) t u ty k.elem i z ht hu hi hz (some ⟨l.B, l.base, none⟩) n cap' m ux olds news (n3 w) (fun w' hw => by simpa [Builtin.firstCells] using o3 w' hw) n4 hlt (by omega) hb,
            toB (Nat.lt_of_lt_of_le (by omega) (grownCap_ge w (n + m) cap' k.elem)) (far_bump r hk' hlv o1 n1 hzs (grownCap_ge w (n + m) cap' k.elem) hl0 hcl (fun j hj => ar_take hoff o2 j (by omega)) n2)⟩
        · obtain ⟨w', s1, s2⟩ := near_bump (P := P) r hk' hlv h n1 hoff rfl (show n + m ≤ cap' by omega) (by rw [hsz1]; omega) hcl hone n2
          exact ⟨_, _, run_append_near t u ty k.elem i ht hu hi ⟨l.B, l.base, none⟩ n cap' m ux news (n3 w) (n4 w rfl) (by omega) w' s1, toB h0 s2⟩
  | _ => exact hs.elim
theorem appendQ_ok (G : Glob) {t u ty e : TypeId} {i : TypeInfo} {z : Value} (ht : P.underlying t = some (.slice e)) (hu : Row P u) (hi : P.info? e = some i) (hz : i.zero = some z) (hzs : z.cells.size = i.size) {s x : AV} {K : AV → AHeap → Prop}
    (hc : acont H i.size x fun m c => aappQ P H e i.size i.bytes s m c K) :
    ∃ r H', K r H' ∧ (∃ N, H' = H ++ N) ∧ ∀ (σ : Sig) (w : World) (us ux : Value), Rel G σ H w → AR σ w s us → AR σ w x ux → ∃ v w', (Builtin.append_ #[t, u] ty #[us, ux]).run P w = .ok v w' ∧ Res G true σ H w r H' v w' := by
  obtain ⟨m, c, hs, hcl, hx⟩ := acont_ok (P := P) G hc
  clear hc
  cases s with
  | sl b ver off len cap sz' x =>
    cases x with
    | false => exact hs.elim
    | true =>
      obtain ⟨rfl, hb, h63, hk⟩ := hs
      cases hk' : H[b]? with
      | none => simp [hk'] at hk
      | some k =>
        simp only [hk'] at hk
        obtain ⟨hlv, rfl, rfl, hoff, hcap, hK⟩ := hk
        exact ⟨_, _, hK, ⟨_, rfl⟩, fun σ w us ux r hs hxr => append_new (P := P) (ty := ty) r ht hu hi hz hzs hk' hlv hoff h63 hb hcl hcap hs (hx σ w ux r hxr)⟩
  | vsl len cs cx =>
    obtain ⟨hl, hb, h63, hcx, hK⟩ := hs
    exact ⟨_, _, hK, ⟨_, rfl⟩, fun σ w us ux r hs hxr => append_newV (P := P) (ty := ty) r ht hu hi hz hzs hl hb h63 hcx hcl hs (hx σ w ux r hxr)⟩
  | _ => exact hs.elim
/-- Noughts behind nothing. -/
def aappZ (P : Program) (H : AHeap) (e : TypeId) (sz by' : Nat) (z : Value) (s x : AV) (K : AV → AHeap → Prop) : Prop :=
  match s, x with
  | .v (.slice none 0 0), .v (.int _ n) => 0 < n ∧ n * by' ≤ 140737488355328 ∧ n ≤ 9223372036854775807 ∧ K (.sl H.length 0 0 n.toNat n.toNat sz false) (H ++ [⟨(List.replicate n.toNat (z.cells.toList.map .v)).flatten, 0, true, e⟩])
  | .sl b ver off len cap sz' false, .v (.int _ n) => sz' = sz ∧ 0 < n ∧ 0 < len ∧ (len + n.toNat) * by' ≤ 140737488355328 ∧ len + n.toNat ≤ 9223372036854775807 ∧ n ≤ 9223372036854775807 ∧ z.oneCell' = true ∧ sz = 1 ∧ off = 0 ∧ match H[b]? with
    | some k => k.live = true ∧ k.ver = ver ∧ k.elem = e ∧ off + len ≤ k.cells.length ∧ K (.sl b (ver + 1) 0 (len + n.toNat) (len + n.toNat) sz false) (H.set b ⟨(k.cells.drop off).take len ++ List.replicate n.toNat (.v z), ver + 1, true, e⟩)
    | none => False
  | _, _ => False
def isIntT (P : Program) (u : TypeId) : Bool := match P.underlying u with | some (.int _) => true | _ => false
set_option maxHeartbeats 1000000 in
theorem run_append_zeros (t u ty e : TypeId) (i : TypeInfo) (z : Value) (k k' : IntKind) (ht : P.underlying t = some (.slice e)) (hu : P.underlying u = some (.int k)) (hi : P.info? e = some i) (hz : i.zero = some z) (hzs : z.cells.size = i.size)
    (n : Nat) (hn : 0 < n) (h63 : n ≤ 9223372036854775807) (hfit : n * i.bytes ≤ 140737488355328) :
    (Builtin.append_ #[t, u] ty #[.slice none 0 0, .int k' n]).run P w =
      .ok (.slice (some ⟨w.heap.size, 0, none⟩) (0 + n) (grownCap w (0 + n) 0 e)) (w.drew.alloc (.cells (#[] ++ Builtin.zeroCells z.cells n ++ Builtin.zeroCells z.cells (grownCap w (0 + n) 0 e - (0 + n))) e)) := by
  have hw : IntKind.i64.wrap (n : Int) = n := by rw [IntKind.wrap_i64]; omega
  have hf := growslice_fits (bytes := i.bytes) hn hfit
  have h48' : ¬ (281474976710656 < Builtin.nextslicecap n 0 * i.bytes) := by omega
  have hb : ¬ (281474976710656 < (n : Int) * (i.bytes : Int)) := by
    have h := Int.ofNat_le.2 hfit
    rw [Int.natCast_mul] at h
    exact Int.not_lt.2 h |> fun h => fun h' => by
      have h2 : ((140737488355328 : Nat) : Int) = 140737488355328 := rfl
      rw [h2] at h
      generalize (n : Int) * (i.bytes : Int) = q at *
      omega
  have hn1 : ¬ (n ≤ 0) := by omega
  have hn2 : ¬ ((n : Int) < 0) := by omega
  have hn3 : ¬ (9223372036854775807 < (n : Int)) := by omega
  have hz0 : i.size = 0 → Builtin.zeroCells z.cells n = #[] := fun h0 => by
    apply Array.eq_empty_of_size_eq_zero
    rw [size_zeroCells, hzs, h0, Nat.mul_zero]
  by_cases h0 : n = 0 ∨ i.size = 0
  · have h1 : i.size = 0 := by omega
    simp [Builtin.append_, run_underlying ht, run_underlying hu, sizeOf, typeInfo, zeroValue, hi, hz, asInt, asIntOf, hw, hn1, hn2, hn3, hb, h48', Question.forced, newRow, grownCap, h1, hz0 h1, Builtin.firstCells]
    omega
  · simp only [not_or] at h0
    simp [Builtin.append_, run_underlying ht, run_underlying hu, sizeOf, typeInfo, zeroValue, hi, hz, asInt, asIntOf, hw, hn1, hn2, hn3, hb, h48', Question.forced, newRow, grownCap, h0.1, h0.2, Builtin.firstCells]
    exact fun h => absurd h (Nat.mul_ne_zero h0.1 h0.2)
set_option maxHeartbeats 1000000 in
theorem run_appendZ_far (t u ty e : TypeId) (i : TypeInfo) (z : Value) (k k' : IntKind) (ht : P.underlying t = some (.slice e)) (hu : P.underlying u = some (.int k)) (hi : P.info? e = some i) (hz : i.zero = some z) (hzs : z.cells.size = i.size) (h1 : i.size = 1)
    (base : Option Addr) (sLen sCap n : Nat) (olds : Array Value) (holds : ∀ w' : World, w'.heap = w.heap → (Builtin.firstCells i.size sLen (.slice base sLen sCap)).run P w' = .ok olds w') (hn : 0 < n) (hg : sCap < sLen + n) (h63 : ((sLen + n : Nat) : Int) ≤ 9223372036854775807) (hfit : (sLen + n) * i.bytes ≤ 140737488355328) :
    (Builtin.append_ #[t, u] ty #[.slice base sLen sCap, .int k' n]).run P w =
      .ok (.slice (some ⟨w.heap.size, 0, none⟩) (sLen + n) (grownCap w (sLen + n) sCap e)) (w.drew.alloc (.cells (olds ++ Builtin.zeroCells z.cells n ++ Builtin.zeroCells z.cells (grownCap w (sLen + n) sCap e - (sLen + n))) e)) := by
  have hw : IntKind.i64.wrap (n : Int) = n := by rw [IntKind.wrap_i64]; omega
  have hf := growslice_fits (bytes := i.bytes) hg hfit
  have h48' : ¬ (281474976710656 < Builtin.nextslicecap (sLen + n) sCap * i.bytes) := by omega
  have hle : n * i.bytes ≤ (sLen + n) * i.bytes := Nat.mul_le_mul_right _ (by omega)
  have hb : ¬ (281474976710656 < (n : Int) * (i.bytes : Int)) := by
    have h := Int.ofNat_le.2 (Nat.le_trans hle hfit)
    rw [Int.natCast_mul] at h
    exact Int.not_lt.2 h |> fun h => fun h' => by
      have h2 : ((140737488355328 : Nat) : Int) = 140737488355328 := rfl
      rw [h2] at h
      generalize (n : Int) * (i.bytes : Int) = q at *
      omega
  have hn1 : ¬ (sLen + n ≤ sCap) := by omega
  have hn2 : ¬ ((n : Int) < 0) := by omega
  have hn3 : ¬ (9223372036854775807 < ((sLen : Int) + (n : Int))) := by omega
  have hn0 : ¬ n = 0 := by omega
  have a1 := holds w.drew rfl
  rw [h1] at a1
  simp [Builtin.append_, run_underlying ht, run_underlying hu, sizeOf, typeInfo, zeroValue, hi, hz, asInt, asIntOf, hw, hn1, hn2, hn3, hb, h48', Question.forced, newRow, grownCap, h1, hn0, a1]
set_option maxHeartbeats 1000000 in
theorem run_appendZ_near (t u ty e : TypeId) (i : TypeInfo) (z : Value) (k k' : IntKind) (ht : P.underlying t = some (.slice e)) (hu : P.underlying u = some (.int k)) (hi : P.info? e = some i) (hz : i.zero = some z) (h1 : i.size = 1)
    (a : Addr) (sLen sCap n : Nat) (hn : 0 < n) (hg : sLen + n ≤ sCap) (h63 : ((sLen + n : Nat) : Int) ≤ 9223372036854775807) (hfit : (sLen + n) * i.bytes ≤ 140737488355328)
    (w' : World) (hst : (storeCells (a.add (sLen * i.size)) (Builtin.zeroCells z.cells n).toList).run P w = .ok () w') :
    (Builtin.append_ #[t, u] ty #[.slice (some a) sLen sCap, .int k' n]).run P w = .ok (.slice (some a) (sLen + n) sCap) w' := by
  have hw : IntKind.i64.wrap (n : Int) = n := by rw [IntKind.wrap_i64]; omega
  have hle : n * i.bytes ≤ (sLen + n) * i.bytes := Nat.mul_le_mul_right _ (by omega)
  have hb : ¬ (281474976710656 < (n : Int) * (i.bytes : Int)) := by
    have h := Int.ofNat_le.2 (Nat.le_trans hle hfit)
    rw [Int.natCast_mul] at h
    exact Int.not_lt.2 h |> fun h => fun h' => by
      have h2 : ((140737488355328 : Nat) : Int) = 140737488355328 := rfl
      rw [h2] at h
      generalize (n : Int) * (i.bytes : Int) = q at *
      omega
  have hn2 : ¬ ((n : Int) < 0) := by omega
  have hn0 : ¬ n = 0 := by omega
  rw [h1] at hst
  simp [Builtin.append_, run_underlying ht, run_underlying hu, sizeOf, typeInfo, zeroValue, hi, hz, asInt, asIntOf, hw, hg, hn2, hb, h1, hn0] at hst ⊢
  simp [hst]
theorem zeros_get {z : Array Value} {n j : Nat} (h : j < n * z.size) : (Builtin.zeroCells z n)[j]? = some (z.getD (j % z.size) undef) := by
  have hz : 0 < z.size := Nat.pos_of_ne_zero fun e => by simp [e] at h
  have : j % z.size < z.size := Nat.mod_lt _ hz
  simp [Builtin.zeroCells, h, this]
theorem zrow_get {α : Type} {k : Nat} (z : List α) : ∀ (m : Nat) (j : Nat), z.length = k → j < m * k → ((List.replicate m z).flatten)[j]? = z[j % k]?
  | 0, j, _, h => by simp at h
  | m + 1, j, hz, h => by
    rw [List.replicate_succ, List.flatten_cons, List.getElem?_append]
    split
    · rw [Nat.mod_eq_of_lt (by omega)]
    · rename_i hj
      rw [Nat.add_mul, Nat.one_mul] at h
      rw [zrow_get z m (j - z.length) hz (by omega), hz, ← Nat.mod_eq_sub_mod (by omega)]
theorem appendZ_ok (G : Glob) {t u ty e : TypeId} {i : TypeInfo} {z : Value} (ht : P.underlying t = some (.slice e)) (hu : isIntT P u = true) (hi : P.info? e = some i) (hz : i.zero = some z) (hzs : z.cells.size = i.size) {s x : AV} {K : AV → AHeap → Prop}
    (hc : aappZ P H e i.size i.bytes z s x K) :
    ∃ r H', K r H' ∧ ∀ (σ : Sig) (w : World) (us ux : Value), Rel G σ H w → AR σ w s us → AR σ w x ux → ∃ v w', (Builtin.append_ #[t, u] ty #[us, ux]).run P w = .ok v w' ∧ Res G false σ H w r H' v w' := by
  unfold aappZ at hc
  split at hc
  · rename_i k n
    obtain ⟨h0, h1, h2, hK⟩ := hc
    obtain ⟨m, rfl⟩ : ∃ m : Nat, n = m := ⟨n.toNat, by omega⟩
    rw [Int.toNat_natCast] at hK
    obtain ⟨k2, hu2⟩ : ∃ k2, P.underlying u = some (.int k2) := by
      unfold isIntT at hu
      split at hu
      · exact ⟨_, by assumption⟩
      · cases hu
    have h1' : m * i.bytes ≤ 140737488355328 := Int.ofNat_le.1 (by rw [Int.natCast_mul]; exact h1)
    have h2' : m ≤ 9223372036854775807 := Int.ofNat_le.1 h2
    have h0' : 0 < m := Int.ofNat_lt.1 h0
    refine ⟨_, _, hK, fun σ w us ux r hs hx => ?_⟩
    cases hs
    cases hx
    refine ⟨_, _, run_append_zeros (w := w) t u ty e i z k2 k ht hu2 hi hz hzs m h0' h2' h1', ?_⟩
    have hf : ((List.replicate m (z.cells.toList.map AV.v)).flatten).length = m * i.size := by
      simp [List.length_flatten, hzs]
    obtain ⟨σ', a, b, c, _⟩ := far_new (olds := #[]) (news := Builtin.zeroCells z.cells m) (n := 0) (m := m) (sz := i.size) (e := e) (c0 := []) (c1 := (List.replicate m (z.cells.toList.map AV.v)).flatten) r (by simp) (by rw [size_zeroCells, hzs]) hzs (grownCap_ge w (0 + m) 0 e) (by simp) hf (fun j hj => by simp at hj) (fun j hj => by
      have hj' : j < m * z.cells.size := by rw [hzs]; exact hj
      have hsz : 0 < z.cells.size := Nat.pos_of_ne_zero fun e => by simp [e] at hj'
      have hlt : j % z.cells.size < z.cells.size := Nat.mod_lt _ hsz
      rw [List.getD_eq_getElem?_getD, zrow_get (k := i.size) _ m j (by simp [hzs]) hj, Array.getD_eq_getD_getElem?, zeros_get hj', ← hzs, List.getElem?_map, Array.getElem?_toList, Array.getElem?_eq_getElem hlt]
      simp only [Option.map_some, Option.getD_some, Array.getD_eq_getD_getElem?, Array.getElem?_eq_getElem hlt]
      exact .v _)
    refine ⟨σ', ?_, ?_, c, fun h => by cases h⟩
    · simpa using a
    · simpa using b
  · rename_i b ver off len cap sz' k n
    obtain ⟨rfl, h0, hlen, hb, h63, hn63, hone, hsz1, ho, hk⟩ := hc
    obtain ⟨m, rfl⟩ : ∃ m : Nat, n = m := ⟨n.toNat, by omega⟩
    rw [Int.toNat_natCast] at hb h63 hk
    obtain ⟨k2, hu2⟩ : ∃ k2, P.underlying u = some (.int k2) := by
      unfold isIntT at hu
      split at hu
      · exact ⟨_, by assumption⟩
      · cases hu
    have h0' : 0 < m := Int.ofNat_lt.1 h0
    have h63' : ((len + m : Nat) : Int) ≤ 9223372036854775807 := by omega
    cases hk' : H[b]? with
    | none => simp [hk'] at hk
    | some kb =>
      simp only [hk'] at hk
      obtain ⟨hlv, rfl, rfl, hoff, hK⟩ := hk
      have hoff' : off + len * i.size ≤ kb.cells.length := by rw [hsz1]; omega
      have e1 : (kb.cells.drop off).take len = (kb.cells.drop off).take (len * i.size) := by rw [hsz1, Nat.mul_one]
      have hl0 : ((kb.cells.drop off).take (len * i.size)).length = len * i.size := by rw [List.length_take, List.length_drop]; omega
      have hzc : z.cells.size = 1 := hzs.trans hsz1
      have hcl : (List.replicate m (AV.v z)).length = m * i.size := by simp [hsz1]
      have hzv : z.cells = #[z] := by cases z <;> first | rfl | (simp [Value.oneCell'] at hone)
      have hn2 : ∀ (σ : Sig) (w : World), ∀ j, j < m * i.size → AR σ w ((List.replicate m (AV.v z)).getD j .any) ((Builtin.zeroCells z.cells m).getD j undef) := fun σ w j hj => by
        rw [hsz1, Nat.mul_one] at hj
        have hz1 : j < m * z.cells.size := by rw [hzc]; omega
        rw [Array.getD_eq_getD_getElem?, zeros_get hz1, hzc, Nat.mod_one, hzv]
        simp [List.getD_eq_getElem?_getD, hj]
        exact .v _
      have hal : (List.replicate m (AV.v z)).all AV.one = true := by
        rw [List.all_eq_true]
        intro x hx
        rw [List.eq_of_mem_replicate hx]
        exact hone
      have hzn : (Builtin.zeroCells z.cells m).size = m * i.size := by rw [size_zeroCells, hzs]
      rw [e1] at hK
      refine ⟨_, _, hK, fun σ w us ux r hs hx => ?_⟩
      cases hx
      cases hs with
      | @sl _ _ _ _ _ cap' _ _ l h h1 h2 h3 =>
        by_cases hlt : cap' < len + m
        · obtain ⟨olds, o1, o2, o3⟩ := run_cells_mem (P := P) (r.mem hk' hlv h) off (len * i.size) hoff'
          exact ⟨_, _, run_appendZ_far (w := w) t u ty kb.elem i z k2 k ht hu2 hi hz hzs hsz1 (some ⟨l.B, l.base + off, none⟩) len cap' m olds (fun w' hw => by simpa [Builtin.firstCells] using o3 w' hw) h0' hlt h63' hb,
            far_bump r hk' hlv o1 hzn hzs (grownCap_ge w (len + m) cap' kb.elem) hl0 hcl (fun j hj => ar_take hoff' o2 j (by omega)) (hn2 σ w)⟩
        · obtain ⟨w', s1, s2⟩ := near_bump (P := P) r hk' hlv h hzn hoff' ho (show len + m ≤ cap' by omega) h3 hcl hal (hn2 σ w)
          exact ⟨_, _, run_appendZ_near t u ty kb.elem i z k2 k ht hu2 hi hz hsz1 ⟨l.B, l.base + off, none⟩ len cap' m h0' (by omega) h63' hb w' s1, s2⟩
      | sl0 A => omega
  · exact hc.elim
end Go.Abs
namespace Go.Abs
set_option linter.unusedVariables false
set_option linter.unusedSimpArgs false
variable {P : Program} {G : Glob} {σ : Sig} {H : AHeap} {w : World}
def toAV : Value → AV
  | .agg us => .agg (us.toList.map .v)
  | c => .v c
theorem ar_agg_v (us : Array Value) : AR σ w (.agg (us.toList.map .v)) (.agg us) := by
  refine .agg us (by simp) (fun j hj => ?_)
  have hj' : j < us.size := by simpa using hj
  simp only [List.getD_eq_getElem?_getD, List.getElem?_map, Array.getElem?_toList, Array.getElem?_eq_getElem hj', Option.map_some, Option.getD_some, Array.getD_eq_getD_getElem?]
  exact .v _
theorem toAV_ar (c : Value) : AR σ w (toAV c) c := by
  cases c <;> first | exact ar_agg_v _ | exact .v _
def aenv (G : Glob) (t : List AV) : Operand → AV
  | .tmp i => t.getD i .any
  | .const c => toAV c
  | .global g => G g
  | .func f => .fn (.func f) []
/-- Bits, as the machine reckons them. -/
def ibits (op : BinOp) (k : IntKind) (x y : Int) : Int :=
  match op with
  | .and => k.wrap (BitVec.ofInt k.bits x &&& BitVec.ofInt k.bits y).toNat
  | .or => k.wrap (BitVec.ofInt k.bits x ||| BitVec.ofInt k.bits y).toNat
  | .xor => k.wrap (BitVec.ofInt k.bits x ^^^ BitVec.ofInt k.bits y).toNat
  | _ => k.wrap (BitVec.ofInt k.bits x &&& ~~~BitVec.ofInt k.bits y).toNat
def shlI (k : IntKind) (x : Int) (n : Int) : Int := k.wrap (x * 2 ^ (min n.toNat k.bits))
def shrI (k : IntKind) (x : Int) (n : Int) : Int := x.fdiv (2 ^ (min n.toNat k.bits))
def bAV (neg : Bool) : Option Bool → AV
  | some b => .v (.bool (if neg then !b else b))
  | none => .ub
/-- Slices and pointers, compared; none: either may be. -/
def aEq0 (P : Program) (t : TypeId) (x y : AV) (K : Option Bool → Prop) : Prop :=
  match y with
  | .v (.slice none 0 0) => (match P.underlying t with
    | some (.slice _) => (match x with
      | .vsl len _ _ => K (if 0 < len then some false else none)
      | .sl _ _ _ len _ _ _ => K (if 0 < len then some false else none)
      | .v (.slice none 0 0) => K (some true)
      | _ => False)
    | _ => False)
  | .v (.pointer none) => (match P.underlying t with
    | some (.pointer _) => (match x with
      | .ptr _ _ _ => K (some false)
      | .vptr _ _ => K (some false)
      | .v (.pointer none) => K (some true)
      | _ => False)
    | _ => False)
  | .ptr b v o => (match P.underlying t with
    | some (.pointer e) => (match x with
      | .ptr b' v' o' => (tsz P e).isSome = true ∧ b' = b ∧ v' = v ∧ o' = o ∧ K (some true)
      | _ => False)
    | _ => False)
  | _ => False
theorem aEq0_ok {t : TypeId} {x y : AV} {K : Option Bool → Prop} (h : aEq0 P t x y K) :
    ∃ r, K r ∧ ∀ (σ : Sig) (w : World) (op : BinOp) (X Y : Operand) (ux uy : Value), AR σ w x ux → AR σ w y uy → eqGuard op t X Y ux uy = pure () ∧ ∃ b, (binOp .eql t ux uy).run P w = .ok (.bool b) w ∧ (binOp .neq t ux uy).run P w = .ok (.bool (!b)) w ∧ ∀ c, r = some c → b = c := by
  have snil : ∀ (e : TypeId), P.underlying t = some (.slice e) → ∀ (w : World) (A : Option Addr) (n c : Nat), (binOp .eql t (.slice A n c) (.slice none 0 0)).run P w = .ok (.bool A.isNone) w ∧ (binOp .neq t (.slice A n c) (.slice none 0 0)).run P w = .ok (.bool (!A.isNone)) w := fun e he w A n c => by
    refine ⟨?_, run_neq_slice_nil_any w t e A n c 0 0 he⟩
    simp only [binOp]
    simp [Op.equal, Op.maxDepth, Lib.run_equalIn_slice_nil w 9999 t e A n c 0 0 he]
  unfold aEq0 at h
  split at h
  · cases hd : P.underlying t with
    | none => simp [hd] at h
    | some d =>
      cases d <;> simp only [hd] at h <;> try (exact h.elim)
      rename_i e
      split at h
      · rename_i len cs cx
        refine ⟨_, h, fun σ w op X Y ux uy hx hy => ?_⟩
        cases hy
        cases hx with
        | vsl B o c' uu hr hm ha hl hx' => exact ⟨eqGuard_at_slice op t X Y _ _ _ _, _, (snil e hd w _ _ _).1, (snil e hd w _ _ _).2, fun c hc => by split at hc <;> cases hc; rfl⟩
        | vsl0 A c' hx' => exact ⟨eqGuard_at_slice op t X Y _ _ _ _, _, (snil e hd w _ _ _).1, (snil e hd w _ _ _).2, fun c hc => by simp at hc⟩
      · rename_i b ver off len cap sz xx
        refine ⟨_, h, fun σ w op X Y ux uy hx hy => ?_⟩
        cases hy
        cases hx with
        | sl hρ g1 g2 g3 => exact ⟨eqGuard_at_slice op t X Y _ _ _ _, _, (snil e hd w _ _ _).1, (snil e hd w _ _ _).2, fun c hc => by split at hc <;> cases hc; rfl⟩
        | sl0 A => exact ⟨eqGuard_at_slice op t X Y _ _ _ _, _, (snil e hd w _ _ _).1, (snil e hd w _ _ _).2, fun c hc => by simp at hc⟩
      · refine ⟨_, h, fun σ w op X Y ux uy hx hy => ?_⟩
        cases hy
        cases hx
        exact ⟨eqGuard_at_slice op t X Y _ _ _ _, _, (snil e hd w _ _ _).1, (snil e hd w _ _ _).2, fun c hc => by cases hc; rfl⟩
      · exact h.elim
  · cases hd : P.underlying t with
    | none => simp [hd] at h
    | some d =>
      cases d <;> simp only [hd] at h <;> try (exact h.elim)
      rename_i e
      have hp : P.underlying t = some (.pointer (P.pointee t)) := by simp [Program.pointee, hd]
      split at h
      · refine ⟨_, h, fun σ w op X Y ux uy hx hy => ?_⟩
        cases hy
        cases hx
        exact ⟨eqGuard_at_pointer op t X Y _ _, _, run_eql_pointer_nil w t _ hp, run_neq_pointer_nil w t _ hp, fun c hc => by cases hc; rfl⟩
      · refine ⟨_, h, fun σ w op X Y ux uy hx hy => ?_⟩
        cases hy
        cases hx
        exact ⟨eqGuard_at_pointer op t X Y _ _, _, run_eql_pointer_nil w t _ hp, run_neq_pointer_nil w t _ hp, fun c hc => by cases hc; rfl⟩
      · refine ⟨_, h, fun σ w op X Y ux uy hx hy => ?_⟩
        cases hy
        cases hx
        exact ⟨eqGuard_at_pointer op t X Y _ _, _, run_eql_pointer_nil w t _ hp, run_neq_pointer_nil w t _ hp, fun c hc => by cases hc; rfl⟩
      · exact h.elim
  · rename_i b v o
    cases hd : P.underlying t with
    | none => simp [hd] at h
    | some d =>
      cases d <;> simp only [hd] at h <;> try (exact h.elim)
      rename_i e
      split at h
      · obtain ⟨ht, rfl, rfl, rfl, hK⟩ := h
        obtain ⟨n, hn⟩ := Option.isSome_iff_exists.1 ht
        unfold tsz at hn
        cases hi : P.info? e with
        | none => simp [hi] at hn
        | some i =>
          refine ⟨_, hK, fun σ w op X Y ux uy hx hy => ?_⟩
          cases hx with
          | ptr h1 =>
            cases hy with
            | ptr h2 =>
              rw [h1] at h2
              cases h2
              refine ⟨eqGuard_at_pointer op t X Y _ _, true, run_eql_ptr_same w _ hd hi, ?_, fun c hc => by cases hc; rfl⟩
              have h : ∀ (d : Nat) (a : Addr), (Op.equalIn (d + 1) t (.pointer (some a)) (.pointer (some a))).run P w = .ok true w := fun d a => by
                simp [Op.equalIn, run_underlying hd, sizeOf, typeInfo, hi, run_sameAddr_same]
              simp only [binOp]
              simp [Op.equal, Op.maxDepth, h 9999]
      · exact h.elim
  · exact h.elim
def aBin (P : Program) (op : BinOp) (t : TypeId) (x y : AV) (K : AV → Prop) : Prop :=
  match x, y with
  | .v (.int k a), .v (.int k' b) =>
    match op with
    | .shl => 0 ≤ b ∧ K (.v (.int k (shlI k a b)))
    | .shr => 0 ≤ b ∧ K (.v (.int k (shrI k a b)))
    | .add => k = k' ∧ K (.v (.int k (k.wrap (a + b))))
    | .sub => k = k' ∧ K (.v (.int k (k.wrap (a - b))))
    | .mul => k = k' ∧ K (.v (.int k (k.wrap (a * b))))
    | .quo => k = k' ∧ b ≠ 0 ∧ K (.v (.int k (k.wrap (a.tdiv b))))
    | .rem => k = k' ∧ b ≠ 0 ∧ K (.v (.int k (a.tmod b)))
    | .and => k = k' ∧ K (.v (.int k (ibits .and k a b)))
    | .or => k = k' ∧ K (.v (.int k (ibits .or k a b)))
    | .xor => k = k' ∧ K (.v (.int k (ibits .xor k a b)))
    | .andNot => k = k' ∧ K (.v (.int k (ibits .andNot k a b)))
    | .eql => k = k' ∧ K (.v (.bool (a == b)))
    | .neq => k = k' ∧ K (.v (.bool (a != b)))
    | .lss => k = k' ∧ K (.v (.bool (decide (a < b))))
    | .leq => k = k' ∧ K (.v (.bool (decide (a ≤ b))))
    | .gtr => k = k' ∧ K (.v (.bool (decide (a > b))))
    | .geq => k = k' ∧ K (.v (.bool (decide (a ≥ b))))
  | .v (.string a), .v (.string b) =>
    match op with
    | .add => a.size + b.size ≤ 9223372036854775807 ∧ K (.v (.string (a ++ b)))
    | .eql => K (.v (.bool (a.toList == b.toList)))
    | .neq => K (.v (.bool (!(a.toList == b.toList))))
    | .lss => K (.v (.bool (Op.bytesLess a.toList b.toList)))
    | .leq => K (.v (.bool (Op.bytesLess a.toList b.toList || a.toList == b.toList)))
    | .gtr => K (.v (.bool (!(Op.bytesLess a.toList b.toList || a.toList == b.toList))))
    | .geq => K (.v (.bool (!Op.bytesLess a.toList b.toList)))
    | _ => False
  | .v (.bool a), .v (.bool b) => P.underlying t = some .bool ∧
    match op with
    | .eql => K (.v (.bool (a == b)))
    | .neq => K (.v (.bool (!(a == b))))
    | _ => False
  | x, y => match op with
    | .eql => aEq0 P t x y fun r => K (bAV false r)
    | .neq => aEq0 P t x y fun r => K (bAV true r)
    | _ => False
theorem aBin_ok {op : BinOp} {t : TypeId} {x y : AV} {K : AV → Prop} (h : aBin P op t x y K) :
    ∃ r, K r ∧ ∀ (σ : Sig) (w : World) (X Y : Operand) (ux uy : Value), AR σ w x ux → AR σ w y uy → ∃ u, (do eqGuard op t X Y ux uy; binOp op t ux uy : Sem Value).run P w = .ok u w ∧ AR σ w r u := by
  unfold aBin at h
  split at h
  · rename_i k a k' b
    have eg : ∀ (X Y : Operand) (v : Value), eqGuard op t X Y (.int k a) v = pure () := fun X Y v => eqGuard_at_int op t X Y _ k a
    cases op
    case shl =>
      obtain ⟨h1, h2⟩ := h
      refine ⟨_, h2, fun σ w X Y ux uy hx hy => ?_⟩
      cases hx; cases hy
      exact ⟨_, by simp [eg, binOp, Op.shift, show ¬ b < 0 by omega, shlI], .v _⟩
    case shr =>
      obtain ⟨h1, h2⟩ := h
      refine ⟨_, h2, fun σ w X Y ux uy hx hy => ?_⟩
      cases hx; cases hy
      exact ⟨_, by simp [eg, binOp, Op.shift, show ¬ b < 0 by omega, shrI], .v _⟩
    case quo =>
      obtain ⟨rfl, h1, h2⟩ := h
      refine ⟨_, h2, fun σ w X Y ux uy hx hy => ?_⟩
      cases hx; cases hy
      exact ⟨_, by simp [eg, binOp, Op.intDiv, h1], .v _⟩
    case rem =>
      obtain ⟨rfl, h1, h2⟩ := h
      refine ⟨_, h2, fun σ w X Y ux uy hx hy => ?_⟩
      cases hx; cases hy
      exact ⟨_, by simp [eg, binOp, Op.intDiv, h1], .v _⟩
    all_goals
      obtain ⟨rfl, h2⟩ := h
      refine ⟨_, h2, fun σ w X Y ux uy hx hy => ?_⟩
      cases hx; cases hy
      exact ⟨_, by simp [eg, binOp, Op.intArith, Op.intBits, Op.intCmp, ibits], .v _⟩
  · rename_i a b
    have eg : ∀ (X Y : Operand) (v : Value), eqGuard op t X Y (.string a) v = pure () := fun X Y v => eqGuard_at_string op t X Y _ a
    cases op
    case add =>
      obtain ⟨h1, h2⟩ := h
      refine ⟨_, h2, fun σ w X Y ux uy hx hy => ?_⟩
      cases hx; cases hy
      exact ⟨_, by simp [eg, binOp, Op.stringOp, show ¬ (9223372036854775807 < (a.size : Int) + b.size) by omega], .v _⟩
    all_goals first
      | exact h.elim
      | (refine ⟨_, h, fun σ w X Y ux uy hx hy => ?_⟩
         cases hx; cases hy
         exact ⟨_, by simp [eg, binOp, Op.stringOp], .v _⟩)
  · rename_i a b
    have eg : ∀ (X Y : Operand) (v : Value), eqGuard op t X Y (.bool a) v = pure () := fun X Y v => eqGuard_at_bool op t X Y _ a
    obtain ⟨ht, h⟩ := h
    cases op
    case eql =>
      refine ⟨_, h, fun σ w X Y ux uy hx hy => ?_⟩
      cases hx; cases hy
      exact ⟨_, by simp only [eg, Sem.run_bind, Sem.run_pure, Result.andThen_ok, run_eql_bool w t a b ht], .v _⟩
    case neq =>
      refine ⟨_, h, fun σ w X Y ux uy hx hy => ?_⟩
      cases hx; cases hy
      exact ⟨_, by simp only [eg, Sem.run_bind, Sem.run_pure, Result.andThen_ok, run_neq_bool w t a b ht], .v _⟩
    all_goals exact h.elim
  · cases op <;> simp only at h <;> try (exact h.elim)
    · obtain ⟨r, hK, hr⟩ := aEq0_ok h
      refine ⟨_, hK, fun σ w X Y ux uy hx hy => ?_⟩
      obtain ⟨e0, b, e1, e2, e3⟩ := hr σ w .eql X Y ux uy hx hy
      refine ⟨.bool b, by rw [e0]; simpa using e1, ?_⟩
      cases r with
      | none => exact .ub b
      | some c => rw [e3 c rfl]; exact .v _
    · obtain ⟨r, hK, hr⟩ := aEq0_ok h
      refine ⟨_, hK, fun σ w X Y ux uy hx hy => ?_⟩
      obtain ⟨e0, b, e1, e2, e3⟩ := hr σ w .neq X Y ux uy hx hy
      refine ⟨.bool (!b), by rw [e0]; simpa using e2, ?_⟩
      cases r with
      | none => exact .ub _
      | some c => rw [e3 c rfl]; exact .v _
/-- A value of an interface's type, compared with nil. -/
def aNilI (P : Program) (op : BinOp) (t : TypeId) (x y : AV) (K : AV → Prop) : Prop :=
  P.underlying t = some (.interface (P.methodsAt t)) ∧ (match op, x, y with
    | .eql, .v .nilIface, .v .nilIface => K (.v (.bool true))
    | .neq, .v .nilIface, .v .nilIface => K (.v (.bool false))
    | .eql, .ifc _ _, .v .nilIface => K (.v (.bool false))
    | .neq, .ifc _ _, .v .nilIface => K (.v (.bool true))
    | _, _, _ => False)
def aBinO (P : Program) (op : BinOp) (t : TypeId) (y : Operand) (ex ey : AV) (K : AV → Prop) : Prop :=
  match y with
  | .const .nilIface => aNilI P op t ex ey K
  | _ => aBin P op t ex ey K
section
variable {op : BinOp} {t : TypeId} {ex ey : AV} {K : AV → Prop}
@[go_sem] theorem aBinO_tmp (i : Tmp) : aBinO P op t (.tmp i) ex ey K = aBin P op t ex ey K := rfl
@[go_sem] theorem aBinO_int (k : IntKind) (n : Int) : aBinO P op t (.const (.int k n)) ex ey K = aBin P op t ex ey K := rfl
@[go_sem] theorem aBinO_string (s : ByteArray) : aBinO P op t (.const (.string s)) ex ey K = aBin P op t ex ey K := rfl
@[go_sem] theorem aBinO_bool (b : Bool) : aBinO P op t (.const (.bool b)) ex ey K = aBin P op t ex ey K := rfl
@[go_sem] theorem aBinO_pointer (a : Option Addr) : aBinO P op t (.const (.pointer a)) ex ey K = aBin P op t ex ey K := rfl
@[go_sem] theorem aBinO_slice (a : Option Addr) (n c : Nat) : aBinO P op t (.const (.slice a n c)) ex ey K = aBin P op t ex ey K := rfl
@[go_sem] theorem aBinO_nil : aBinO P op t (.const .nilIface) ex ey K = aNilI P op t ex ey K := rfl
end
theorem aBinO_ok {op : BinOp} {t : TypeId} {y : Operand} {ex ey : AV} {K : AV → Prop} (X : Operand) (h : aBinO P op t y ex ey K) :
    ∃ r, K r ∧ ∀ (σ : Sig) (w : World) (ux uy : Value), AR σ w ex ux → AR σ w ey uy → ∃ u, (do eqGuard op t X y ux uy; binOp op t ux uy : Sem Value).run P w = .ok u w ∧ AR σ w r u := by
  unfold aBinO at h
  split at h
  · obtain ⟨ht, h⟩ := h
    have e1 : ∀ w, (Op.equal t .nilIface .nilIface).run P w = .ok true w := fun w => run_equal_nil_nil w t ht
    have e2 : ∀ w u x, (Op.equal t (.iface u x) .nilIface).run P w = .ok false w := fun w u x => run_equal_held_nil w t u x ht
    split at h
    · refine ⟨_, h, fun σ w ux uy hx hy => ?_⟩
      cases hx; cases hy
      exact ⟨.bool true, by rw [eqGuard_nil_constR]; simp [binOp, e1], .v _⟩
    · refine ⟨_, h, fun σ w ux uy hx hy => ?_⟩
      cases hx; cases hy
      exact ⟨.bool false, by rw [eqGuard_nil_constR]; simp [binOp, e1], .v _⟩
    · refine ⟨_, h, fun σ w ux uy hx hy => ?_⟩
      cases hy
      cases hx with
      | ifc hi => exact ⟨.bool false, by simp [eqGuard, binOp, e2], .v _⟩
    · refine ⟨_, h, fun σ w ux uy hx hy => ?_⟩
      cases hy
      cases hx with
      | ifc hi => exact ⟨.bool true, by simp [eqGuard, binOp, e2], .v _⟩
    · exact h.elim
  · obtain ⟨r, hK, hr⟩ := aBin_ok h
    exact ⟨r, hK, fun σ w ux uy hx hy => hr σ w X y ux uy hx hy⟩
def aUn (op : UnOp) (x : AV) (K : AV → Prop) : Prop :=
  match op, x with
  | .neg, .v (.int k n) => K (.v (.int k (k.wrap (0 - n))))
  | .xor, .v (.int k n) => K (.v (.int k (ibits .xor k (if k.signed then -1 else k.max) n)))
  | .not, .v (.bool b) => K (.v (.bool (!b)))
  | .not, .ub => K .ub
  | _, _ => False
theorem aUn_ok {op : UnOp} {x : AV} {K : AV → Prop} (h : aUn op x K) : ∃ r, K r ∧ ∀ (σ : Sig) (w : World) (ux : Value), AR σ w x ux → ∃ u, (Op.unary op ux).run P w = .ok u w ∧ AR σ w r u := by
  unfold aUn at h
  split at h
  · refine ⟨_, h, fun σ w ux hx => ?_⟩
    cases hx
    exact ⟨_, by simp [Op.unary, Op.intArith], .v _⟩
  · refine ⟨_, h, fun σ w ux hx => ?_⟩
    cases hx
    exact ⟨_, by simp [Op.unary, Op.intBits, ibits], .v _⟩
  · refine ⟨_, h, fun σ w ux hx => ?_⟩
    cases hx
    exact ⟨_, by simp [Op.unary], .v _⟩
  · refine ⟨_, h, fun σ w ux hx => ?_⟩
    cases hx with
    | ub b => exact ⟨.bool (!b), by simp [Op.unary], .ub _⟩
  · exact h.elim
/-- A part of a value. -/
def aPart (P : Program) (t : TypeId) (cs : List AV) (off : Nat) (K : AV → Prop) : Prop := rdP P t cs off K
theorem ar_getD {cs : List AV} {us : Array Value} (hl : us.size = cs.length) (ha : ∀ j, j < cs.length → AR σ w (cs.getD j .any) (us.getD j undef)) {off : Nat} {t : TypeId} {K : AV → Prop} (h : rdP P t cs off K) :
    ∃ r u, K r ∧ (part t us off).run P w = .ok u w ∧ AR σ w r u := by
  unfold rdP at h
  have rows : ∀ d, P.underlying t = some d → (match d with | .struct _ | .array _ _ => true | _ => false) = true → (match tsz P t with | some n => off + n ≤ cs.length ∧ K (.agg ((cs.drop off).take n)) | none => False) →
      ∃ r u, K r ∧ (part t us off).run P w = .ok u w ∧ AR σ w r u := by
    intro d hd hf hr
    unfold tsz at hr
    cases hi : P.info? t with
    | none => simp [hi] at hr
    | some i =>
      simp only [hi, Option.map_some] at hr
      refine ⟨_, .agg (us.extract off (off + i.size)), hr.2, ?_, .agg _ (by simp; omega) (fun j hj => ?_)⟩
      · cases d <;> first | (cases hf; done) | simp [part, isAgg, run_underlying hd, sizeOf, typeInfo, hi]
      · rw [List.length_take, List.length_drop] at hj
        have := ha (off + j) (by omega)
        rw [List.getD_eq_getElem?_getD, List.getElem?_take, if_pos (by omega), List.getElem?_drop, ← List.getD_eq_getElem?_getD]
        have e : (us.extract off (off + i.size)).getD j undef = us.getD (off + j) undef := by
          simp only [Array.getD_eq_getD_getElem?, Array.getElem?_extract]
          rw [if_pos (by omega)]
        rw [e]
        exact this
  have plain : ∀ d, P.underlying t = some d → (match d with | .struct _ | .array _ _ => true | _ => false) = false → off < cs.length ∧ K (cs.getD off .any) →
      ∃ r u, K r ∧ (part t us off).run P w = .ok u w ∧ AR σ w r u := by
    intro d hd hf ⟨h1, h2⟩
    have h3 : us[off]? = some (us.getD off undef) := getD_lt (by omega)
    refine ⟨_, us.getD off undef, h2, ?_, ha off h1⟩
    cases d <;> first | (cases hf; done) | simp only [part, isAgg, run_underlying hd, Sem.run_bind, Sem.run_pure, Result.andThen_ok, h3, Bool.false_eq_true, if_false]
  cases hd : P.underlying t with
  | none => simp [hd] at h
  | some d =>
    cases d <;> simp only [hd] at h <;> first | exact rows _ hd rfl h | exact plain _ hd rfl h
end Go.Abs
namespace Go.Abs
set_option linter.unusedVariables false
set_option linter.unusedSimpArgs false
variable {P : Program} {G : Glob} {σ : Sig} {H : AHeap} {w : World}
def bnd (x : Option AV) (d : Nat) (K : Int → Prop) : Prop :=
  match x with
  | none => K d
  | some (.v (.int _ n)) => K n
  | _ => False
def BV (x : Option Value) (n : Int) (d : Nat) : Prop := (x = none ∧ n = d) ∨ ∃ k, x = some (.int k n)
theorem bnd_ok {o : Option Operand} {env : Operand → AV} {d : Nat} {K : Int → Prop} (h : bnd (o.map env) d K) : ∃ n, K n ∧ ∀ (σ : Sig) (w : World) (a : Act), (∀ x ∈ o, AR σ w (env x) (a.eval x)) → BV (o.map a.eval) n d := by
  cases o with
  | none => exact ⟨_, h, fun _ _ _ _ => .inl ⟨rfl, rfl⟩⟩
  | some x =>
    simp only [Option.map_some] at h ⊢
    cases hx : env x with
    | v y =>
      rw [hx] at h
      cases y with
      | int k n =>
        refine ⟨n, h, fun σ w a ha => .inr ⟨k, ?_⟩⟩
        have := ha x rfl
        rw [hx] at this
        show some (a.eval x) = _
        generalize a.eval x = ux at *
        cases this
        rfl
      | _ => exact h.elim
    | _ => rw [hx] at h; exact h.elim
theorem run_bound (k : IntKind) (i : Int) (y : Nat) (code : BoundsCode) (h0 : 0 ≤ i) (h1 : i ≤ y) : (Instr.sliceBound (.int k i) y code).run P w = .ok i.toNat w := by
  simp [Instr.sliceBound, asIntOf, h0, h1]
theorem run_bounds {isS : Bool} {len cap : Nat} {lo hi mx : Option Value} {l h m : Int} (hl : BV lo l 0) (hh : BV hi h len) (hm : BV mx m cap) (hmx : mx ≠ none → hi ≠ none) (h0 : 0 ≤ l) (h1 : l ≤ h) (h2 : h ≤ m) (h3 : m ≤ cap) :
    (Instr.sliceBounds isS len cap lo hi mx).run P w = .ok (l.toNat, h.toNat, m.toNat) w := by
  have b1 : ∀ k y code, l ≤ ((y : Nat) : Int) → (Instr.sliceBound (.int k l) y code).run P w = .ok l.toNat w := fun k y code hy => run_bound k l y code h0 hy
  have b2 : ∀ k y code, h ≤ ((y : Nat) : Int) → (Instr.sliceBound (.int k h) y code).run P w = .ok h.toNat w := fun k y code hy => run_bound k h y code (by omega) hy
  have b3 : ∀ k y code, m ≤ ((y : Nat) : Int) → (Instr.sliceBound (.int k m) y code).run P w = .ok m.toNat w := fun k y code hy => run_bound k m y code (by omega) hy
  have e1 : l ≤ ((h.toNat : Nat) : Int) := by omega
  have e2 : h ≤ ((m.toNat : Nat) : Int) := by omega
  rcases hm with ⟨rfl, rfl⟩ | ⟨km, rfl⟩
  · rcases hh with ⟨rfl, rfl⟩ | ⟨kh, rfl⟩
    · rcases hl with ⟨rfl, rfl⟩ | ⟨kl, rfl⟩
      · simp [Instr.sliceBounds]
      · simp [Instr.sliceBounds, b1 kl len _ (by omega)]
    · rcases hl with ⟨rfl, rfl⟩ | ⟨kl, rfl⟩
      · simp [Instr.sliceBounds, b2 kh cap _ (by omega)]
      · simp [Instr.sliceBounds, b2 kh cap _ (by omega), b1 kl _ _ e1]
  · rcases hh with ⟨rfl, rfl⟩ | ⟨kh, rfl⟩
    · exact absurd rfl (hmx (by simp))
    · rcases hl with ⟨rfl, rfl⟩ | ⟨kl, rfl⟩
      · simp [Instr.sliceBounds, b3 km cap _ (by omega), b2 kh _ _ e2]
      · simp [Instr.sliceBounds, b3 km cap _ (by omega), b2 kh _ _ e2, b1 kl _ _ e1]
def bnd3 (lo hi mx : Option AV) (len cap : Nat) (K : Nat → Nat → Nat → Prop) : Prop :=
  (mx.isSome = true → hi.isSome = true) ∧ bnd lo 0 fun l => bnd hi len fun h => bnd mx cap fun m => 0 ≤ l ∧ l ≤ h ∧ h ≤ m ∧ m ≤ cap ∧ K l.toNat h.toNat m.toNat
theorem bnd3_ok {lo hi mx : Option Operand} {env : Operand → AV} {len cap : Nat} {K : Nat → Nat → Nat → Prop} (h : bnd3 (lo.map env) (hi.map env) (mx.map env) len cap K) :
    ∃ l h m, K l h m ∧ l ≤ h ∧ h ≤ m ∧ m ≤ cap ∧ (mx = none → m = cap) ∧ ∀ (P : Program) (σ : Sig) (w w' : World) (a : Act) (isS : Bool) (cap' : Nat), (∀ x ∈ lo, AR σ w (env x) (a.eval x)) → (∀ x ∈ hi, AR σ w (env x) (a.eval x)) → (∀ x ∈ mx, AR σ w (env x) (a.eval x)) → cap ≤ cap' →
      (Instr.sliceBounds isS len cap' (lo.map a.eval) (hi.map a.eval) (mx.map a.eval)).run P w' = .ok (l, h, if mx.isSome then m else cap') w' := by
  obtain ⟨h0, h1⟩ := h
  obtain ⟨l, h1, c1⟩ := bnd_ok h1
  obtain ⟨h, h1, c2⟩ := bnd_ok h1
  obtain ⟨m, ⟨g1, g2, g3, g4, hK⟩, c3⟩ := bnd_ok h1
  cases mx with
  | none =>
    have hm : m = cap := by
      rcases c3 ⟨fun _ _ => none, fun _ => False⟩ default ⟨#[], []⟩ (fun _ h => by cases h) with ⟨_, h⟩ | ⟨_, h⟩
      · exact h
      · simp at h
    refine ⟨_, _, _, hK, by omega, by omega, by omega, fun _ => by omega, fun P σ w w' a isS cap' x1 x2 x3 hc => ?_⟩
    have := run_bounds (P := P) (w := w') (isS := isS) (cap := cap') (m := (cap' : Int)) (mx := none) (c1 σ w a x1) (c2 σ w a x2) (.inl ⟨rfl, rfl⟩) (fun hn => absurd rfl hn) g1 g2 (by omega) (Int.le_refl _)
    simpa using this
  | some mo =>
    refine ⟨_, _, _, hK, by omega, by omega, by omega, fun h => by simp at h, fun P σ w w' a isS cap' x1 x2 x3 hc => ?_⟩
    have hb : BV (some (a.eval mo)) m cap' := by
      rcases c3 σ w a x3 with ⟨h, _⟩ | h
      · simp at h
      · exact .inr h
    have := run_bounds (P := P) (w := w') (isS := isS) (c1 σ w a x1) (c2 σ w a x2) hb (fun hn => by
      cases hi with
      | none => simp at h0
      | some _ => simp) g1 g2 g3 (by omega)
    simpa using this
/-- 'x[lo:hi:mx]'. -/
def aSlice (P : Program) (H : AHeap) (t : TypeId) (x : AV) (lo hi mx : Option AV) (K : AV → Prop) : Prop :=
  match x with
  | .v (.string s) => P.underlying t = some .string ∧ mx = none ∧ bnd3 lo hi none s.size s.size fun l h _ => K (.v (.string (s.extract l h)))
  | .v (.slice none 0 0) => (match P.underlying t with | some (.slice e) => (tsz P e).isSome = true | _ => False) ∧ bnd3 lo hi mx 0 0 fun _ _ _ => K (.v (.slice none 0 0))
  | .sl b ver off len cap sz x => (match P.underlying t with | some (.slice e) => tsz P e = some sz | _ => False) ∧ bnd3 lo hi mx len cap fun l h m => K (.sl b ver (off + l * sz) (h - l) (m - l) sz (x || mx.isSome))
  | .vsl len cs cx => match P.underlying t with
    | some (.slice e) => match tsz P e with
      | some sz => cs.length = len * sz ∧ bnd3 lo hi mx len len fun l h m => K (.vsl (h - l) ((cs.drop (l * sz)).take ((h - l) * sz)) (if mx.isSome then some (m - l) else cx.map (· - l)))
      | none => False
    | _ => False
  | .ptr b ver off => match P.underlying t with
    | some (.array n e) => match tsz P e, H[b]? with
      | some sz, some k => k.live = true ∧ k.ver = ver ∧ off + n * sz ≤ k.cells.length ∧ bnd3 lo hi mx n n fun l h m => K (.sl b ver (off + l * sz) (h - l) (m - l) sz true)
      | _, _ => False
    | some (.pointer arr) => match P.underlying arr with
      | some (.array n e) => match tsz P e, H[b]? with
        | some sz, some k => k.live = true ∧ k.ver = ver ∧ off + n * sz ≤ k.cells.length ∧ bnd3 lo hi mx n n fun l h m => K (.sl b ver (off + l * sz) (h - l) (m - l) sz true)
        | _, _ => False
      | _ => False
    | _ => False
  | .vptr cs off => match P.underlying t with
    | some (.array n e) => match tsz P e with
      | some sz => off + n * sz ≤ cs.length ∧ bnd3 lo hi mx n n fun l h m => K (.vsl (h - l) ((cs.drop (off + l * sz)).take ((h - l) * sz)) (some (m - l)))
      | none => False
    | some (.pointer arr) => match P.underlying arr with
      | some (.array n e) => match tsz P e with
        | some sz => off + n * sz ≤ cs.length ∧ bnd3 lo hi mx n n fun l h m => K (.vsl (h - l) ((cs.drop (off + l * sz)).take ((h - l) * sz)) (some (m - l)))
        | none => False
      | _ => False
    | _ => False
  | _ => False
theorem ar_sl_cut {b ver off sz : Nat} {x : Bool} {l0 : Loc} (hρ : σ.ρ b ver = some l0) {l h m cap' m' : Nat} (hlh : l ≤ h) (hhm : h ≤ m) (hmc : m ≤ m') (hx : x = true → m' = m) (hm' : m' ≤ cap') (hlim : l0.base + off + cap' * sz ≤ l0.lim) :
    AR σ w (.sl b ver (off + l * sz) (h - l) (m - l) sz x) (.slice (if m' = l then some ⟨l0.B, l0.base + off, none⟩ else some ⟨l0.B, l0.base + off + l * sz, none⟩) (h - l) (m' - l)) := by
  by_cases e : m' = l
  · rw [if_pos e, show h - l = 0 from by omega, show m - l = 0 from by omega, show m' - l = 0 from by omega]
    exact .sl0 _
  · rw [if_neg e, Nat.add_assoc]
    refine .sl hρ (by omega) (fun hx' => by have := hx hx'; omega) ?_
    have h1 : (l + (m' - l)) * sz ≤ cap' * sz := Nat.mul_le_mul_right _ (by omega)
    rw [Nat.add_mul] at h1
    omega
theorem ar_vsl_cut {cs : List AV} {B o sz off : Nat} {cx : Option Nat} (hr : σ.ro B) (hm : Mem σ w B o cs) {l h m' : Nat} (hlh : l ≤ h) (hhm : h ≤ m') (hx : ∀ c, cx = some c → m' - l = c) (hlen : off + h * sz ≤ cs.length) :
    AR σ w (.vsl (h - l) ((cs.drop (off + l * sz)).take ((h - l) * sz)) cx) (.slice (if m' = l then some ⟨B, o + off, none⟩ else some ⟨B, o + off + l * sz, none⟩) (h - l) (m' - l)) := by
  have hmul : (h - l) * sz = h * sz - l * sz := Nat.sub_mul _ _ _
  by_cases e : m' = l
  · rw [if_pos e, show h - l = 0 from by omega, Nat.zero_mul, List.take_zero]
    exact .vsl0 _ _ hx
  · rw [if_neg e]
    have hle : l * sz ≤ h * sz := Nat.mul_le_mul_right _ hlh
    have hlt : ∀ j, j < ((cs.drop (off + l * sz)).take ((h - l) * sz)).length → j < (h - l) * sz ∧ off + l * sz + j < cs.length := fun j hj => by
      rw [List.length_take, List.length_drop] at hj
      omega
    refine .vsl B (o + off + l * sz) (m' - l) (fun j => (w.cell? ⟨B, o + off + l * sz + j, none⟩).getD undef) hr (fun j hj => ?_) (fun j hj => ?_) (by omega) hx
    · obtain ⟨h1, h2⟩ := hlt j hj
      obtain ⟨u, a1, a2⟩ := hm _ h2
      rw [show o + (off + l * sz + j) = o + off + l * sz + j from by omega] at a1
      rw [a1]
      rfl
    · obtain ⟨h1, h2⟩ := hlt j hj
      obtain ⟨u, a1, a2⟩ := hm _ h2
      rw [show o + (off + l * sz + j) = o + off + l * sz + j from by omega] at a1
      rw [List.getD_eq_getElem?_getD, List.getElem?_take, if_pos h1, List.getElem?_drop, ← List.getD_eq_getElem?_getD]
      show AR σ w _ ((w.cell? ⟨B, o + off + l * sz + j, none⟩).getD undef)
      rw [a1]
      exact a2
theorem run_sizeOf' {t : TypeId} {n : Nat} (h : tsz P t = some n) : (sizeOf t).run P w = .ok n w := by
  unfold tsz at h
  cases hi : P.info? t with
  | none => simp [hi] at h
  | some i =>
    simp only [hi, Option.map_some, Option.some.injEq] at h
    simp [sizeOf, typeInfo, hi, h]
theorem aSlice_ok (G : Glob) {t : TypeId} {x : Operand} {lo hi mx : Option Operand} {env : Operand → AV} {K : AV → Prop} (h : aSlice P H t (env x) (lo.map env) (hi.map env) (mx.map env) K) :
    ∃ r, K r ∧ ∀ (σ : Sig) (w : World) (a : Act), Rel G σ H w → AR σ w (env x) (a.eval x) → (∀ y ∈ lo, AR σ w (env y) (a.eval y)) → (∀ y ∈ hi, AR σ w (env y) (a.eval y)) → (∀ y ∈ mx, AR σ w (env y) (a.eval y)) →
      ∃ u, (Instr.sliceAt t (a.eval x) (lo.map a.eval) (hi.map a.eval) (mx.map a.eval)).run P w = .ok u w ∧ AR σ w r u := by
  have hmx : ∀ m cap' : Nat, (if mx.isSome = true then m else cap') = if (mx.map env).isSome = true then m else cap' := fun m cap' => by cases mx <;> rfl
  cases hx : env x with
  | v y =>
    rw [hx] at h
    unfold aSlice at h
    split at h
    · rename_i s e
      cases e
      obtain ⟨ht, hmx, h⟩ := h
      have hmx' : mx = none := by cases mx <;> simp_all
      subst hmx'
      obtain ⟨l, hq, m, hK, h1, h2, h3, h4, hb⟩ := bnd3_ok (mx := none) h
      refine ⟨_, hK, fun σ w a r ha b1 b2 b3 => ?_⟩
      generalize a.eval x = ux at *
      cases ha
      have := hb P σ w w a false _ b1 b2 (fun _ h => by cases h) (Nat.le_refl _)
      simp only [Option.map_none] at this
      exact ⟨_, by simp [Instr.sliceAt, Instr.slice, run_underlying ht, this], .v _⟩
    · rename_i e
      cases e
      obtain ⟨ht, h⟩ := h
      obtain ⟨l, hq, m, hK, h1, h2, h3, h4, hb⟩ := bnd3_ok h
      refine ⟨_, hK, fun σ w a r ha b1 b2 b3 => ?_⟩
      generalize a.eval x = ux at *
      cases ha
      have := hb P σ w w a true _ b1 b2 b3 (Nat.le_refl _)
      cases hd : P.underlying t with
      | none => simp [hd] at ht
      | some d =>
        cases d <;> simp only [hd] at ht
        rename_i e
        cases hs : tsz P e with
        | none => simp [hs] at ht
        | some sz =>
          obtain rfl : m = 0 := by omega
          obtain rfl : hq = 0 := by omega
          obtain rfl : l = 0 := by omega
          simp only [ite_self] at this
          exact ⟨_, by simp [Instr.sliceAt, Instr.slice, run_underlying hd, this, run_sizeOf' hs], .v _⟩
    · rename_i e
      cases e
    · rename_i e
      cases e
    · rename_i e
      cases e
    · rename_i e
      cases e
    · exact h.elim
  | sl b ver off len cap sz xx =>
    rw [hx] at h
    obtain ⟨ht, h⟩ := h
    obtain ⟨l, hq, m, hK, h1, h2, h3, h4, hb⟩ := bnd3_ok h
    refine ⟨_, hK, fun σ w a r ha b1 b2 b3 => ?_⟩
    generalize a.eval x = ux at *
    cases hd : P.underlying t with
    | none => simp [hd] at ht
    | some d =>
      cases d <;> simp only [hd] at ht
      rename_i e
      have hs := run_sizeOf' (P := P) (w := w) ht
      cases ha with
      | @sl _ _ _ _ _ cap' _ _ l0 hρ g1 g2 g3 =>
        have := hb P σ w w a true cap' b1 b2 b3 g1
        refine ⟨.slice (if (if mx.isSome then m else cap') = l then some ⟨l0.B, l0.base + off, none⟩ else some ⟨l0.B, l0.base + off + l * sz, none⟩) (hq - l) ((if mx.isSome then m else cap') - l), ?_, ar_sl_cut (w := w) hρ h1 h2 ?_ ?_ ?_ g3⟩
        · simp only [Instr.sliceAt, Instr.slice, run_underlying hd, Sem.run_bind, Result.andThen_ok, this, hs, Option.map_some, Addr.add_lit, Sem.run_pure]
        · cases mx with
          | none => simp; have := h4 rfl; omega
          | some _ => simp
        · intro hxx
          cases mx with
          | none => simp at hxx ⊢; have := h4 rfl; have := g2 hxx; omega
          | some _ => simp
        · cases mx with
          | none => simp
          | some _ => simp; omega
      | sl0 A =>
        have := hb P σ w w a true 0 b1 b2 b3 (Nat.le_refl _)
        obtain rfl : m = 0 := by omega
        obtain rfl : hq = 0 := by omega
        obtain rfl : l = 0 := by omega
        simp only [ite_self] at this
        refine ⟨.slice A 0 0, ?_, ?_⟩
        · simp only [Instr.sliceAt, Instr.slice, run_underlying hd, Sem.run_bind, Result.andThen_ok, this, hs, Sem.run_pure, if_true, Nat.sub_zero]
        · exact .sl0 A
  | vsl len cs cx =>
    rw [hx] at h
    unfold aSlice at h
    cases hd : P.underlying t with
    | none => simp [hd] at h
    | some d =>
      cases d <;> simp only [hd] at h <;> try (exact h.elim)
      rename_i e
      cases hs : tsz P e with
      | none => simp [hs] at h
      | some sz =>
        simp only [hs] at h
        obtain ⟨hl, h⟩ := h
        obtain ⟨l, hq, m, hK, h1, h2, h3, h4, hb⟩ := bnd3_ok h
        refine ⟨_, hK, fun σ w a r ha b1 b2 b3 => ?_⟩
        generalize a.eval x = ux at *
        have hs' := run_sizeOf' (P := P) (w := w) hs
        cases ha with
        | @vsl _ _ _ B o c' uu hr hm ha hle hx' =>
          have := hb P σ w w a true c' b1 b2 b3 hle
          have hhl : hq * sz ≤ len * sz := Nat.mul_le_mul_right _ (by omega)
          refine ⟨.slice (if (if mx.isSome then m else c') = l then some ⟨B, o, none⟩ else some ⟨B, o + l * sz, none⟩) (hq - l) ((if mx.isSome then m else c') - l), ?_, ?_⟩
          · simp only [Instr.sliceAt, Instr.slice, run_underlying hd, Sem.run_bind, Result.andThen_ok, this, hs', Option.map_some, Addr.add_lit, Sem.run_pure]
          · have := ar_vsl_cut (w := w) (off := 0) (sz := sz) (m' := if mx.isSome then m else c') (cx := if (mx.map env).isSome then some (m - l) else cx.map (· - l)) hr (Mem.of_fun hm ha) h1 (by cases mx <;> simp <;> omega) (fun c hc => by
              cases mx with
              | none =>
                simp only [Option.map_none, Option.isSome_none, Bool.false_eq_true, if_false, Option.map_eq_some_iff] at hc ⊢
                obtain ⟨c0, e1, rfl⟩ := hc
                rw [hx' _ e1]
              | some _ => simpa using hc) (by omega)
            simpa using this
        | vsl0 A c' hx' =>
          have := hb P σ w w a true c' b1 b2 b3 (Nat.zero_le _)
          obtain rfl : m = 0 := by omega
          obtain rfl : hq = 0 := by omega
          obtain rfl : l = 0 := by omega
          refine ⟨.slice A 0 (if mx.isSome then 0 else c'), ?_, ?_⟩
          · simp only [Instr.sliceAt, Instr.slice, run_underlying hd, Sem.run_bind, Result.andThen_ok, this, hs', Sem.run_pure, Nat.sub_zero, Nat.zero_mul]
            congr 2
            cases A <;> simp [Addr.add]
          · simp only [List.drop_nil, List.take_nil]
            refine .vsl0 _ _ (fun c hc => ?_)
            cases mx with
            | none =>
              simp only [Option.map_none, Option.isSome_none, Bool.false_eq_true, if_false, Option.map_eq_some_iff] at hc ⊢
              obtain ⟨c0, e1, rfl⟩ := hc
              rw [hx' _ e1]
              rfl
            | some _ => simpa using hc
  | ptr b ver off =>
    rw [hx] at h
    unfold aSlice at h
    have fin : ∀ (n : Nat) (e : TypeId) (K : AV → Prop), (match tsz P e, H[b]? with | some sz, some k => k.live = true ∧ k.ver = ver ∧ off + n * sz ≤ k.cells.length ∧ bnd3 (lo.map env) (hi.map env) (mx.map env) n n fun l h m => K (.sl b ver (off + l * sz) (h - l) (m - l) sz true) | _, _ => False) →
        ∃ r, K r ∧ ∀ (σ : Sig) (w : World) (a : Act) (ad : Addr), Rel G σ H w → AR σ w (.ptr b ver off) (.pointer (some ad)) → (∀ y ∈ lo, AR σ w (env y) (a.eval y)) → (∀ y ∈ hi, AR σ w (env y) (a.eval y)) → (∀ y ∈ mx, AR σ w (env y) (a.eval y)) →
          ∃ u, (do let (l, h, m) ← Instr.sliceBounds false n n (lo.map a.eval) (hi.map a.eval) (mx.map a.eval); let size ← sizeOf e; pure (.slice (some (if m = l then ad else ad.add (l * size))) (h - l) (m - l)) : Sem Value).run P w = .ok u w ∧ AR σ w r u := by
      intro n e K h
      cases hs : tsz P e with
      | none => simp [hs] at h
      | some sz =>
        cases hk : H[b]? with
        | none => simp [hs, hk] at h
        | some k =>
          simp only [hs, hk] at h
          obtain ⟨hlv, rfl, hfit, h⟩ := h
          obtain ⟨l, hq, m, hK, h1, h2, h3, h4, hb⟩ := bnd3_ok h
          refine ⟨_, hK, fun σ w a ad r ha b1 b2 b3 => ?_⟩
          have hs' := run_sizeOf' (P := P) (w := w) hs
          cases ha with
          | @ptr _ _ _ l0 hρ =>
            obtain ⟨C, fr, d1, d2, d3, d4, d5⟩ := r.blk b k l0 hk hlv hρ
            have := hb P σ w w a false n b1 b2 b3 (Nat.le_refl _)
            have hmn : (if mx.isSome then m else n) = m := by cases mx with | none => simp [h4 rfl] | some _ => simp
            rw [hmn] at this
            refine ⟨.slice (if m = l then some ⟨l0.B, l0.base + off, none⟩ else some ⟨l0.B, l0.base + off + l * sz, none⟩) (hq - l) (m - l), ?_, ar_sl_cut (w := w) (cap' := n) hρ h1 h2 (Nat.le_refl _) (fun _ => rfl) h3 (by omega)⟩
            simp only [Sem.run_bind, Result.andThen_ok, this, hs', Addr.add_lit, Sem.run_pure]
            split <;> rfl
    cases hd : P.underlying t with
    | none => simp [hd] at h
    | some d =>
      cases d <;> simp only [hd] at h <;> try (exact h.elim)
      · rename_i arr
        cases hd2 : P.underlying arr with
        | none => simp [hd2] at h
        | some d2 =>
          cases d2 <;> simp only [hd2] at h <;> try (exact h.elim)
          rename_i n e
          obtain ⟨r, hK, hr⟩ := fin n e K h
          refine ⟨r, hK, fun σ w a rel ha b1 b2 b3 => ?_⟩
          generalize a.eval x = ux at *
          cases ha with
          | @ptr _ _ _ l0 hρ =>
            obtain ⟨u, e1, e2⟩ := hr σ w a _ rel (.ptr hρ) b1 b2 b3
            refine ⟨u, ?_, e2⟩
            simp only [Instr.sliceAt, Instr.slice, run_underlying hd, run_underlying hd2, asAddr, Sem.run_bind, Result.andThen_ok, Sem.run_pure]
            simpa only [Sem.run_bind, Sem.run_pure] using e1
      · rename_i n e
        obtain ⟨r, hK, hr⟩ := fin n e K h
        refine ⟨r, hK, fun σ w a rel ha b1 b2 b3 => ?_⟩
        generalize a.eval x = ux at *
        cases ha with
        | @ptr _ _ _ l0 hρ =>
          obtain ⟨u, e1, e2⟩ := hr σ w a _ rel (.ptr hρ) b1 b2 b3
          refine ⟨u, ?_, e2⟩
          simp only [Instr.sliceAt, run_underlying hd, Instr.sureAddr, Sem.run_bind, Result.andThen_ok, Sem.run_pure]
          simpa only [Sem.run_bind, Sem.run_pure] using e1
  | vptr cs off =>
    rw [hx] at h
    unfold aSlice at h
    have fin : ∀ (n : Nat) (e : TypeId) (K : AV → Prop), (match tsz P e with | some sz => off + n * sz ≤ cs.length ∧ bnd3 (lo.map env) (hi.map env) (mx.map env) n n fun l h m => K (.vsl (h - l) ((cs.drop (off + l * sz)).take ((h - l) * sz)) (some (m - l))) | none => False) →
        ∃ r, K r ∧ ∀ (σ : Sig) (w : World) (a : Act) (ad : Addr), Rel G σ H w → AR σ w (.vptr cs off) (.pointer (some ad)) → (∀ y ∈ lo, AR σ w (env y) (a.eval y)) → (∀ y ∈ hi, AR σ w (env y) (a.eval y)) → (∀ y ∈ mx, AR σ w (env y) (a.eval y)) →
          ∃ u, (do let (l, h, m) ← Instr.sliceBounds false n n (lo.map a.eval) (hi.map a.eval) (mx.map a.eval); let size ← sizeOf e; pure (.slice (some (if m = l then ad else ad.add (l * size))) (h - l) (m - l)) : Sem Value).run P w = .ok u w ∧ AR σ w r u := by
      intro n e K h
      cases hs : tsz P e with
      | none => simp [hs] at h
      | some sz =>
        simp only [hs] at h
        obtain ⟨hfit, h⟩ := h
        obtain ⟨l, hq, m, hK, h1, h2, h3, h4, hb⟩ := bnd3_ok h
        refine ⟨_, hK, fun σ w a ad r ha b1 b2 b3 => ?_⟩
        have hs' := run_sizeOf' (P := P) (w := w) hs
        cases ha with
        | vptr B o uu hr hm ha =>
          have := hb P σ w w a false n b1 b2 b3 (Nat.le_refl _)
          have hmn : (if mx.isSome then m else n) = m := by cases mx with | none => simp [h4 rfl] | some _ => simp
          rw [hmn] at this
          have hhl : hq * sz ≤ n * sz := Nat.mul_le_mul_right _ (by omega)
          refine ⟨.slice (if m = l then some ⟨B, o + off, none⟩ else some ⟨B, o + off + l * sz, none⟩) (hq - l) (m - l), ?_, ar_vsl_cut (w := w) hr (Mem.of_fun hm ha) h1 h2 (fun c hc => by simpa using hc) (by omega)⟩
          simp only [Sem.run_bind, Result.andThen_ok, this, hs', Addr.add_lit, Sem.run_pure]
          split <;> rfl
    cases hd : P.underlying t with
    | none => simp [hd] at h
    | some d =>
      cases d <;> simp only [hd] at h <;> try (exact h.elim)
      · rename_i arr
        cases hd2 : P.underlying arr with
        | none => simp [hd2] at h
        | some d2 =>
          cases d2 <;> simp only [hd2] at h <;> try (exact h.elim)
          rename_i n e
          obtain ⟨r, hK, hr⟩ := fin n e K h
          refine ⟨r, hK, fun σ w a rel ha b1 b2 b3 => ?_⟩
          generalize a.eval x = ux at *
          cases ha with
          | vptr B o uu hr' hm ha =>
            obtain ⟨u, e1, e2⟩ := hr σ w a _ rel (.vptr B o uu hr' hm ha) b1 b2 b3
            refine ⟨u, ?_, e2⟩
            simp only [Instr.sliceAt, Instr.slice, run_underlying hd, run_underlying hd2, asAddr, Sem.run_bind, Result.andThen_ok, Sem.run_pure]
            simpa only [Sem.run_bind, Sem.run_pure] using e1
      · rename_i n e
        obtain ⟨r, hK, hr⟩ := fin n e K h
        refine ⟨r, hK, fun σ w a rel ha b1 b2 b3 => ?_⟩
        generalize a.eval x = ux at *
        cases ha with
        | vptr B o uu hr' hm ha =>
          obtain ⟨u, e1, e2⟩ := hr σ w a _ rel (.vptr B o uu hr' hm ha) b1 b2 b3
          refine ⟨u, ?_, e2⟩
          simp only [Instr.sliceAt, run_underlying hd, Instr.sureAddr, Sem.run_bind, Result.andThen_ok, Sem.run_pure]
          simpa only [Sem.run_bind, Sem.run_pure] using e1
  | _ => rw [hx] at h; exact h.elim
end Go.Abs
namespace Go.Abs
set_option linter.unusedVariables false
set_option linter.unusedSimpArgs false
variable {P : Program} {G : Glob} {σ : Sig} {H : AHeap} {w : World}
/-- '&x[i]'. -/
def aIdxAddr (P : Program) (t : TypeId) (x i : AV) (K : AV → Prop) : Prop :=
  match i with
  | .v (.int _ i) => match P.underlying t with
    | some (.array n e) => match tsz P e with
      | some sz => 0 ≤ i ∧ i < n ∧ (match x with
        | .ptr b ver off => K (.ptr b ver (off + i.toNat * sz))
        | .vptr cs off => K (.vptr cs (off + i.toNat * sz))
        | _ => False)
      | none => False
    | some (.slice e) => match tsz P e with
      | some sz => match x with
        | .sl b ver off len _ sz' _ => sz' = sz ∧ 0 ≤ i ∧ i < len ∧ K (.ptr b ver (off + i.toNat * sz))
        | .vsl len cs _ => 0 ≤ i ∧ i < len ∧ K (.vptr cs (i.toNat * sz))
        | _ => False
      | none => False
    | _ => False
  | _ => False
theorem aIdxAddr_ok {t : TypeId} {x i : AV} {K : AV → Prop} (h : aIdxAddr P t x i K) : ∃ r, K r ∧ ∀ (σ : Sig) (w : World) (ux ui : Value), AR σ w x ux → AR σ w i ui → ∃ u, (Instr.indexAt t ux ui).run P w = .ok u w ∧ AR σ w r u := by
  cases i with
  | v y =>
    cases y with
    | int k i =>
      unfold aIdxAddr at h
      cases hd : P.underlying t with
      | none => simp [hd] at h
      | some d =>
        cases d <;> simp only [hd] at h <;> try (exact h.elim)
        · rename_i e
          cases hs : tsz P e with
          | none => simp [hs] at h
          | some sz =>
            simp only [hs] at h
            cases x <;> simp only at h <;> try (exact h.elim)
            · rename_i b ver off len cap sz' xx
              obtain ⟨rfl, h1, h2, hK⟩ := h
              refine ⟨_, hK, fun σ w ux ui hx hi => ?_⟩
              cases hi
              cases hx with
              | sl hρ g1 g2 g3 =>
                refine ⟨_, ?_, .ptr hρ⟩
                simp only [Instr.indexAt, asIntOf, run_underlying hd, Sem.run_bind, Sem.run_pure, Result.andThen_ok, Bool.and_false, h1, h2, and_self, if_true, run_sizeOf' hs, Addr.add_lit, Nat.add_assoc]
              | sl0 A => omega
            · rename_i len cs cx
              obtain ⟨h1, h2, hK⟩ := h
              refine ⟨_, hK, fun σ w ux ui hx hi => ?_⟩
              cases hi
              cases hx with
              | vsl B o c' uu hr hm ha hle hx' =>
                refine ⟨_, ?_, .vptr B o uu hr hm ha⟩
                simp only [Instr.indexAt, asIntOf, run_underlying hd, Sem.run_bind, Sem.run_pure, Result.andThen_ok, Bool.and_false, h1, h2, and_self, if_true, run_sizeOf' hs, Addr.add_lit]
              | vsl0 A c' hx' => omega
        · rename_i n e
          cases hs : tsz P e with
          | none => simp [hs] at h
          | some sz =>
            simp only [hs] at h
            obtain ⟨h1, h2, h⟩ := h
            cases x <;> simp only at h <;> try (exact h.elim)
            · refine ⟨_, h, fun σ w ux ui hx hi => ?_⟩
              cases hi
              cases hx with
              | ptr hρ =>
                refine ⟨_, ?_, .ptr hρ⟩
                simp only [Instr.indexAt, Instr.sureAddr, asIntOf, run_underlying hd, Sem.run_bind, Sem.run_pure, Result.andThen_ok, h1, h2, and_self, if_true, run_sizeOf' hs, Addr.add_lit, Nat.add_assoc]
            · refine ⟨_, h, fun σ w ux ui hx hi => ?_⟩
              cases hi
              cases hx with
              | vptr B o uu hr hm ha =>
                refine ⟨_, ?_, .vptr B o uu hr hm ha⟩
                simp only [Instr.indexAt, Instr.sureAddr, asIntOf, run_underlying hd, Sem.run_bind, Sem.run_pure, Result.andThen_ok, h1, h2, and_self, if_true, run_sizeOf' hs, Addr.add_lit, Nat.add_assoc]
    | _ => exact h.elim
  | _ => exact h.elim
/-- '&x.f'. -/
def aFldAddr (P : Program) (t : TypeId) (x : AV) (f : Nat) (K : AV → Prop) : Prop :=
  match P.underlying t with
  | some (.struct fs) => match fs[f]? with
    | some fd => (match tsz P fd.type with | some n => n ≠ 0 | none => False) ∧ (match x with
      | .ptr b ver off => K (.ptr b ver (off + fd.offset))
      | .vptr cs off => K (.vptr cs (off + fd.offset))
      | _ => False)
    | none => False
  | _ => False
theorem aFldAddr_ok {t : TypeId} {x : AV} {f : Nat} {K : AV → Prop} (h : aFldAddr P t x f K) : ∃ r, K r ∧ ∀ (σ : Sig) (w : World) (ux : Value), AR σ w x ux → ∃ u, (Instr.fieldAt t ux f).run P w = .ok u w ∧ AR σ w r u := by
  unfold aFldAddr at h
  cases hd : P.underlying t with
  | none => simp [hd] at h
  | some d =>
    cases d <;> simp only [hd] at h <;> try (exact h.elim)
    rename_i fs
    cases hf : fs[f]? with
    | none => simp [hf] at h
    | some fd =>
      simp only [hf] at h
      obtain ⟨hn, h⟩ := h
      cases hs : tsz P fd.type with
      | none => simp [hs] at hn
      | some n =>
        simp only [hs] at hn
        cases x <;> simp only at h <;> try (exact h.elim)
        · refine ⟨_, h, fun σ w ux hx => ?_⟩
          cases hx with
          | ptr hρ =>
            refine ⟨_, ?_, .ptr hρ⟩
            simp only [Instr.fieldAt, run_underlying hd, hf, Instr.sureAddr, fieldPlace, Sem.run_bind, Sem.run_pure, Result.andThen_ok, run_sizeOf' hs, hn, if_false, Addr.add_lit, Nat.add_assoc]
        · refine ⟨_, h, fun σ w ux hx => ?_⟩
          cases hx with
          | vptr B o uu hr hm ha =>
            refine ⟨_, ?_, .vptr B o uu hr hm ha⟩
            simp only [Instr.fieldAt, run_underlying hd, hf, Instr.sureAddr, fieldPlace, Sem.run_bind, Sem.run_pure, Result.andThen_ok, run_sizeOf' hs, hn, if_false, Addr.add_lit, Nat.add_assoc]
/-- 'x.f' of a value. -/
def aFld (P : Program) (t : TypeId) (x : AV) (f : Nat) (K : AV → Prop) : Prop :=
  match P.underlying t, x with
  | some (.struct fs), .agg cs => match fs[f]? with
    | some fd => rdP P fd.type cs fd.offset K
    | none => False
  | _, _ => False
theorem aFld_ok {t : TypeId} {x : AV} {f : Nat} {K : AV → Prop} (h : aFld P t x f K) (ux : Value) (hx : AR σ w x ux) : ∃ r u, K r ∧ (Instr.field t ux f).run P w = .ok u w ∧ AR σ w r u := by
  unfold aFld at h
  split at h
  · rename_i fs cs hd
    cases hf : fs[f]? with
    | none => simp [hf] at h
    | some fd =>
      simp only [hf] at h
      cases hx with
      | agg us hl ha =>
        obtain ⟨r, u, h1, h2, h3⟩ := ar_getD hl ha h
        exact ⟨r, u, h1, by simp only [Instr.field, run_underlying hd, hf, asAgg, Sem.run_bind, Sem.run_pure, Result.andThen_ok, h2], h3⟩
  · exact h.elim
/-- 'x[i]' of a value. -/
def aIdx (P : Program) (t : TypeId) (x i : AV) (K : AV → Prop) : Prop :=
  match P.underlying t, x, i with
  | some (.array n e), .agg cs, .v (.int _ i) => match tsz P e with
    | some sz => 0 ≤ i ∧ i < n ∧ rdP P e cs (i.toNat * sz) K
    | none => False
  | some .string, .v (.string s), .v (.int _ i) => 0 ≤ i ∧ i < s.size ∧ K (.v (.int .u8 ((s.data.toList.getD i.toNat 0).toNat)))
  | _, _, _ => False
theorem aIdx_ok {t : TypeId} {x i : AV} {K : AV → Prop} (h : aIdx P t x i K) (ux ui : Value) (hx : AR σ w x ux) (hi : AR σ w i ui) : ∃ r u, K r ∧ (Instr.index t ux ui).run P w = .ok u w ∧ AR σ w r u := by
  unfold aIdx at h
  split at h
  · rename_i n e cs k i hd
    cases hs : tsz P e with
    | none => simp [hs] at h
    | some sz =>
      simp only [hs] at h
      obtain ⟨h1, h2, h⟩ := h
      cases hi
      cases hx with
      | agg us hl ha =>
        obtain ⟨r, u, a1, a2, a3⟩ := ar_getD hl ha h
        exact ⟨r, u, a1, by simp only [Instr.index, asIntOf, run_underlying hd, Sem.run_bind, Sem.run_pure, Result.andThen_ok, h1, h2, and_self, if_true, run_sizeOf' hs, a2], a3⟩
  · rename_i s k i hd
    obtain ⟨h1, h2, h⟩ := h
    cases hi
    cases hx
    refine ⟨_, _, h, ?_, .v _⟩
    have hlt : i.toNat < s.size := by omega
    have hb : s[i.toNat]? = some (s.data.toList.getD i.toNat 0) := by
      have h2 : i.toNat < s.data.size := hlt
      rw [getElem?_pos s i.toNat hlt]
      simp only [List.getD_eq_getElem?_getD, Array.getElem?_toList, Array.getElem?_eq_getElem h2, Option.getD_some]
      rfl
    simp only [Instr.index, asIntOf, run_underlying hd, Sem.run_bind, Sem.run_pure, Result.andThen_ok, h1, if_true, hb]
  · exact h.elim
/-- A component. -/
def aExt (x : AV) (i : Nat) (K : AV → Prop) : Prop :=
  match x with
  | .tup cs => i < cs.length ∧ K (cs.getD i .any)
  | _ => False
theorem aExt_ok {x : AV} {i : Nat} {K : AV → Prop} (h : aExt x i K) (ux : Value) (hx : AR σ w x ux) : ∃ r u, K r ∧ (Instr.extract ux i).run P w = .ok u w ∧ AR σ w r u := by
  unfold aExt at h
  split at h
  · obtain ⟨h1, h2⟩ := h
    cases hx with
    | tup us hl ha =>
      refine ⟨_, _, h2, ?_, ha i h1⟩
      simp only [Instr.extract, getD_lt (show i < us.size by omega), Sem.run_pure]
  · exact h.elim
/-- A builtin's number. -/
def aLen (P : Program) (t : TypeId) (x : AV) (K : AV → Prop) : Prop :=
  match P.underlying t with
  | some .string => match x with | .v (.string s) => K (.v (.int .i64 s.size)) | _ => False
  | some (.array n _) => K (.v (.int .i64 n))
  | some (.pointer arr) => match P.underlying arr with | some (.array n _) => K (.v (.int .i64 n)) | _ => False
  | some (.slice _) => match x with
    | .v (.slice none 0 0) => K (.v (.int .i64 0))
    | .sl _ _ _ len _ _ _ => K (.v (.int .i64 len))
    | .vsl len _ _ => K (.v (.int .i64 len))
    | .bsl _ _ len => K (.v (.int .i64 len))
    | _ => False
  | _ => False
theorem aLen_ok {t ty : TypeId} {ts : Array TypeId} (hts : ts[0]? = some t) {x : AV} {K : AV → Prop} (h : aLen P t x K) : ∃ r, K r ∧ ∀ (σ : Sig) (w : World) (ux : Value), AR σ w x ux → ∃ u, (Builtin.len_ ts ty #[ux]).run P w = .ok u w ∧ AR σ w r u := by
  unfold aLen at h
  cases hd : P.underlying t with
  | none => simp [hd] at h
  | some d =>
    cases d <;> simp only [hd] at h <;> try (exact h.elim)
    · cases x <;> (try simp only at h) <;> try (exact h.elim)
      rename_i y
      cases y <;> (try simp only at h) <;> try (exact h.elim)
      refine ⟨_, h, fun σ w ux hx => ?_⟩
      cases hx
      exact ⟨_, by simp [Builtin.len_, hts, run_underlying hd, goInt], .v _⟩
    · rename_i arr
      cases hd2 : P.underlying arr with
      | none => simp [hd2] at h
      | some d2 =>
        cases d2 <;> simp only [hd2] at h <;> try (exact h.elim)
        refine ⟨_, h, fun σ w ux hx => ?_⟩
        exact ⟨_, by simp [Builtin.len_, hts, run_underlying hd, run_underlying hd2, goInt], .v _⟩
    · cases x <;> (try simp only at h) <;> try (exact h.elim)
      · rename_i y
        split at h
        · rename_i e
          cases e
          refine ⟨_, h, fun σ w ux hx => ?_⟩
          cases hx
          exact ⟨_, by simp [Builtin.len_, hts, run_underlying hd, goInt], .v _⟩
        · rename_i e
          cases e
        · rename_i e
          cases e
        · rename_i e
          cases e
        · exact h.elim
      · refine ⟨_, h, fun σ w ux hx => ?_⟩
        cases hx <;> exact ⟨_, by simp [Builtin.len_, hts, run_underlying hd, goInt], .v _⟩
      · refine ⟨_, h, fun σ w ux hx => ?_⟩
        cases hx <;> exact ⟨_, by simp [Builtin.len_, hts, run_underlying hd, goInt], .v _⟩
      · refine ⟨_, h, fun σ w ux hx => ?_⟩
        cases hx <;> exact ⟨_, by simp [Builtin.len_, hts, run_underlying hd, goInt], .v _⟩
    · refine ⟨_, h, fun σ w ux hx => ?_⟩
      exact ⟨_, by simp [Builtin.len_, hts, run_underlying hd, goInt], .v _⟩
/-- 'cap'. -/
def aCap (P : Program) (t : TypeId) (x : AV) (K : AV → Prop) : Prop :=
  match P.underlying t with
  | some (.array n _) => K (.v (.int .i64 n))
  | some (.slice _) => match x with
    | .v (.slice none 0 0) => K (.v (.int .i64 0))
    | .sl _ _ _ _ cap _ true => K (.v (.int .i64 cap))
    | .vsl _ _ (some c) => K (.v (.int .i64 c))
    | _ => False
  | _ => False
theorem aCap_ok {t ty : TypeId} {ts : Array TypeId} (hts : ts[0]? = some t) {x : AV} {K : AV → Prop} (h : aCap P t x K) : ∃ r, K r ∧ ∀ (σ : Sig) (w : World) (ux : Value), AR σ w x ux → ∃ u, (Builtin.cap_ ts ty #[ux]).run P w = .ok u w ∧ AR σ w r u := by
  unfold aCap at h
  cases hd : P.underlying t with
  | none => simp [hd] at h
  | some d =>
    cases d <;> simp only [hd] at h <;> try (exact h.elim)
    · split at h
      · refine ⟨_, h, fun σ w ux hx => ?_⟩
        cases hx
        exact ⟨_, by simp [Builtin.cap_, hts, run_underlying hd, goInt], .v _⟩
      · refine ⟨_, h, fun σ w ux hx => ?_⟩
        cases hx with
        | sl h1 h2 h3 h4 =>
          cases h3 rfl
          exact ⟨_, by simp [Builtin.cap_, hts, run_underlying hd, goInt], .v _⟩
        | sl0 A => exact ⟨_, by simp [Builtin.cap_, hts, run_underlying hd, goInt], .v _⟩
      · refine ⟨_, h, fun σ w ux hx => ?_⟩
        cases hx with
        | vsl B o c' u h1 h2 h3 h4 h5 =>
          cases h5 _ rfl
          exact ⟨_, by simp [Builtin.cap_, hts, run_underlying hd, goInt], .v _⟩
        | vsl0 A c' h5 =>
          cases h5 _ rfl
          exact ⟨_, by simp [Builtin.cap_, hts, run_underlying hd, goInt], .v _⟩
      · exact h.elim
    · refine ⟨_, h, fun σ w ux hx => ?_⟩
      exact ⟨_, by simp [Builtin.cap_, hts, run_underlying hd, goInt], .v _⟩
/-- 'copy'. -/
def aCopy (H : AHeap) (dst : AV) (n : Nat) (cs : List AV) (K : AV → AHeap → Prop) : Prop :=
  match dst with
  | .sl b ver off len _ sz _ => n ≤ len ∧ (match H[b]? with
    | some k => k.live = true ∧ k.ver = ver ∧ off + cs.length ≤ k.cells.length ∧ cs.all AV.one = true ∧ K (.v (.int .i64 n)) (H.set b { k with cells := splice k.cells off cs })
    | none => False)
  | _ => False
theorem copy_ok (G : Glob) {dT sT ty e : TypeId} {i : TypeInfo} (ht : P.underlying dT = some (.slice e)) (hi : P.info? e = some i) {dst src : AV} {K : AV → AHeap → Prop} (hc : acont H i.size src fun n cs => aCopy H dst n cs K) :
    ∃ r H', K r H' ∧ ∀ (σ : Sig) (w : World) (ud us : Value), Rel G σ H w → AR σ w dst ud → AR σ w src us → ∃ v w', (Builtin.copy_ #[dT, sT] ty #[ud, us]).run P w = .ok v w' ∧ Res G false σ H w r H' v w' := by
  obtain ⟨n, cs, hs, hcl, hx⟩ := acont_ok (P := P) G hc
  cases dst <;> try (exact hs.elim)
  rename_i b ver off len cap sz xx
  obtain ⟨hn, hk⟩ := hs
  cases hk' : H[b]? with
  | none => simp [hk'] at hk
  | some k =>
    simp only [hk'] at hk
    obtain ⟨hlv, rfl, hfit, hone, hK⟩ := hk
    refine ⟨_, _, hK, fun σ w ud us r hd hsr => ?_⟩
    obtain ⟨news, n1, n2, n3, n4⟩ := hx σ w us r hsr
    have hmin : Nat.min n len = n := Nat.min_eq_left hn
    have hou : ∀ v ∈ news.toList, v.oneCell' = true := ones_of (σ := σ) (w := w) hone (by simp [n1, hcl]) (fun j hj => by
      have := n2 j (by omega)
      simpa [List.getD_eq_getElem?_getD] using this)
    cases hd with
    | @sl _ _ _ _ _ cap' _ _ l h h1 h2 h3 =>
      obtain ⟨w', s1, s2, s3, s4⟩ := r.store (P := P) hk' hlv h off cs news.toList (by simp [n1, hcl]) hfit hou (fun j hj => by
        have := n2 j (by omega)
        simpa [List.getD_eq_getElem?_getD] using this)
      refine ⟨_, w', ?_, Res.of (.v _) s2 s3 (fun h => by cases h)⟩
      simp only [Builtin.copy_, List.getElem?_toArray, List.getElem?_cons_zero, List.getElem?_cons_succ, run_underlying ht, sizeOf, typeInfo, hi, Sem.run_bind, Sem.run_pure, Result.andThen_ok, n3 w, hmin, run_program, n4 w rfl, s1, goInt]
    | sl0 A =>
      obtain rfl : n = 0 := by omega
      have hnn := size_zero n1
      subst hnn
      have hcn := len_zero hcl
      subst hcn
      rw [splice_nil, set_same hk']
      refine ⟨_, w, ?_, Res.same r (.v _)⟩
      cases A <;> simp only [Builtin.copy_, List.getElem?_toArray, List.getElem?_cons_zero, List.getElem?_cons_succ, run_underlying ht, sizeOf, typeInfo, hi, Sem.run_bind, Sem.run_pure, Result.andThen_ok, n3 w, hmin, run_program, n4 w rfl, goInt, storeCells]
end Go.Abs
namespace Go.Abs
set_option linter.unusedVariables false
set_option linter.unusedSimpArgs false
variable {P : Program} {G : Glob} {σ : Sig} {H : AHeap} {w : World}
def ints (k : IntKind) (l : List Int) : List AV := l.map fun n => .v (.int k n)
theorem ints_length (k : IntKind) (l : List Int) : (ints k l).length = l.length := by simp [ints]
theorem ints_get {k : IntKind} {l : List Int} {j : Nat} (h : j < l.length) : (ints k l).getD j .any = .v (.int k (l.getD j 0)) := by
  simp [ints, List.getD_eq_getElem?_getD, h]
def bytesOf (s : ByteArray) : List Int := s.data.toList.map fun b => (b.toNat : Int)
def strOf (l : List Int) : ByteArray := ⟨(l.map fun n => UInt8.ofNat n.toNat).toArray⟩
def aConv (P : Program) (H : AHeap) (src dst : TypeId) (x : AV) (K : AV → AHeap → Prop) : Prop :=
  match x with
  | .v (.int _ n) => match P.underlying src, P.underlying dst with
    | some _, some (.int k) => K (.v (.int k (k.wrap n))) H
    | some (.int _), some .string => K (.v (.string (Utf8.encode n))) H
    | _, _ => False
  | .v (.string s) => match P.underlying src, P.underlying dst with
    | some .string, some .string => K (.v (.string s)) H
    | some .string, some (.slice e) => P.underlying e = some (.int .u8) ∧ K (.sl H.length 0 0 s.size s.size 1 false) (H ++ [⟨ints .u8 (bytesOf s), 0, true, e⟩])
    | _, _ => False
  | x => match P.underlying src, P.underlying dst with
    | some (.slice e), some .string => P.underlying e = some (.int .u8) ∧ acont H 1 x fun _ cs => ∃ l, cs = ints .u8 l ∧ K (.v (.string (strOf l))) H
    | some (.slice _), some (.slice e) => src = dst ∧ P.underlying e = some (.int .u8) ∧ (match x with
      | .sl b ver off len cap sz x => 0 < len ∧ (match H[b]? with | some k => k.live = true ∧ k.ver = ver | none => False) ∧ K (.sl b ver off len cap sz x) H
      | _ => False)
    | _, _ => False
theorem foldl_push : ∀ (ns : List Int) (s : ByteArray), ns.foldl (fun r n => r.push (UInt8.ofNat n.toNat)) s = ⟨s.data ++ (ns.map fun n => UInt8.ofNat n.toNat).toArray⟩
  | [], s => by simp
  | n :: ns, s => by
    rw [List.foldl_cons, foldl_push ns]
    congr 1
    show s.data.push (UInt8.ofNat n.toNat) ++ (ns.map fun n => UInt8.ofNat n.toNat).toArray = s.data ++ ((n :: ns).map fun n => UInt8.ofNat n.toNat).toArray
    rw [← Array.append_singleton, Array.append_assoc]
    simp
theorem Rel.marked (r : Rel G σ H w) {b : Nat} {k : Blk} {l : Loc} (hk : H[b]? = some k) (hlv : k.live = true) (hl : σ.ρ b k.ver = some l) :
    Rel G σ H (w.freeze ⟨l.B, l.lim, none⟩ 1) ∧ Ext σ H w σ H (w.freeze ⟨l.B, l.lim, none⟩ 1) ∧ (∀ x u, AR σ w x u → AR σ (w.freeze ⟨l.B, l.lim, none⟩ 1) x u) ∧ w.shape? l.B = some (k.elem, l.lim) ∧ ∀ B, B < w.heap.size → Alike w.heap[B]? (w.freeze ⟨l.B, l.lim, none⟩ 1).heap[B]? := by
  obtain ⟨C, fr, h1, h2, h3, h4, h5⟩ := r.blk b k l hk hlv hl
  have hb : (w.freeze ⟨l.B, l.lim, none⟩ 1).heap[l.B]? = some (.cells C k.elem (if fr.1 == fr.2 then (l.lim, l.lim + 1) else (min fr.1 l.lim, max fr.2 (l.lim + 1)))) := by
    simp [World.freeze, Array.getElem?_modify, h1]
  have := r.upd hk hlv hl (C := C) (fr := if fr.1 == fr.2 then (l.lim, l.lim + 1) else (min fr.1 l.lim, max fr.2 (l.lim + 1))) (w' := w.freeze ⟨l.B, l.lim, none⟩ 1) k.cells hb h2 h3 (by
      split
      · exact .inl (Nat.le_refl _)
      · rename_i hne
        simp only [beq_iff_eq] at hne
        rcases h4 with h | h
        · exact .inl (by show l.lim ≤ min fr.1 l.lim; omega)
        · exact absurd h hne) h5 (fun B hB => by
      simp only [World.freeze]
      rw [if_neg (by decide)]
      simp only [Array.getElem?_modify]
      rw [if_neg (fun e => hB e.symm)]) (by simp [World.freeze]) rfl rfl rfl
  rw [show ({ k with cells := k.cells } : Blk) = k from rfl, set_same hk] at this
  refine ⟨this.1, this.2.1, this.2.2, by simp [World.shape?, h1, h2], fun B hB => ?_⟩
  by_cases e : B = l.B
  · subst e
    rw [hb, h1]
    exact .marked _ _ (fun _ => by
      split
      · exact .inl (by omega)
      · rename_i hne
        simp only [beq_iff_eq] at hne
        rcases h4 with h | h
        · exact .inl (by show C.size ≤ min fr.1 l.lim; omega)
        · exact absurd h hne)
  · refine .same ?_
    simp only [World.freeze]
    rw [if_neg (by decide)]
    simp only [Array.getElem?_modify]
    rw [if_neg (fun e' => e e'.symm)]
theorem ints_ar {k : IntKind} {l : List Int} {us : Array Value} {n : Nat} (hl : l.length = n) (hu : us.size = n) (h : ∀ j, j < n → AR σ w ((ints k l).getD j .any) (us.getD j undef)) : us = (l.map (Value.int k)).toArray := by
  apply Array.ext_getElem?
  intro j
  by_cases hj : j < n
  · have := h j hj
    rw [ints_get (by omega)] at this
    rw [getD_lt (by omega)]
    generalize us.getD j undef = u at *
    cases this
    simp [List.getD_eq_getElem?_getD, show j < l.length by omega]
  · rw [Array.getElem?_eq_none (by omega), Array.getElem?_eq_none (by simp; omega)]
theorem acont_u8 {x : AV} {e : TypeId} {src dst : TypeId} (hs : P.underlying src = some (.slice e)) (hd : P.underlying dst = some .string) (he : P.underlying e = some (.int .u8)) {K : AV → Prop} (G : Glob) (hx : ∀ s, x ≠ .v (.string s))
    (h : acont H 1 x fun _ cs => ∃ l, cs = ints .u8 l ∧ K (.v (.string (strOf l)))) : ∃ r, K r ∧ ∀ (σ : Sig) (w : World) (ux : Value), Rel G σ H w → AR σ w x ux → ∃ u, (convert src dst ux).run P w = .ok u w ∧ AR σ w r u := by
  obtain ⟨n, cs, ⟨l, rfl, hK⟩, hcl, hr⟩ := acont_ok (P := P) G h
  refine ⟨_, hK, fun σ w ux r hxr => ?_⟩
  obtain ⟨us, n1, n2, n3, n4⟩ := hr σ w ux r hxr
  rw [ints_length, Nat.mul_one] at hcl
  rw [Nat.mul_one] at n1 n2
  have hus := ints_ar hcl n1 n2
  have key : ∀ (A : Option Addr) (len cap : Nat), ux = .slice A len cap → ∃ u, (convert src dst ux).run P w = .ok u w ∧ AR σ w (.v (.string (strOf l))) u := by
    rintro A len cap rfl
    have hlen : len = n := by
      have := n3 w
      simp [Builtin.lenOf] at this
      exact this
    subst hlen
    rw [run_convert_bytes_string w src dst e A len cap hs he hd]
    have h4 := n4 w rfl
    cases A with
    | none =>
      simp [Builtin.firstCells] at h4
      rw [hus] at h4
      have : l = [] := by cases l <;> simp_all
      subst this
      exact ⟨_, by simp [Conv.bytesToString]; rfl, .v _⟩
    | some a =>
      simp only [Builtin.firstCells, Nat.mul_one] at h4
      rw [hus] at h4
      rw [run_bytesToString w a len cap l h4, foldl_push]
      refine ⟨_, rfl, ?_⟩
      have : (ByteArray.empty.data ++ (l.map fun n => UInt8.ofNat n.toNat).toArray) = (l.map fun n => UInt8.ofNat n.toNat).toArray := by
        show (#[] : Array UInt8) ++ _ = _
        simp
      rw [this]
      exact .v _
  cases x with
  | v y =>
    cases hxr
    cases ux with
    | slice A len cap => exact key _ _ _ rfl
    | string s => exact absurd rfl (hx s)
    | _ => exact h.elim
  | sl b ver off len cap sz xx => cases hxr <;> exact key _ _ _ rfl
  | vsl len cs cx => cases hxr <;> exact key _ _ _ rfl
  | _ => exact h.elim
theorem aConv_ok (G : Glob) {src dst : TypeId} {x : AV} {K : AV → AHeap → Prop} (h : aConv P H src dst x K) :
    ∃ r H', K r H' ∧ (∃ N, H' = H ++ N) ∧ ∀ (σ : Sig) (w : World) (ux : Value), Rel G σ H w → AR σ w x ux → ∃ u w', (convert src dst ux).run P w = .ok u w' ∧ Res G true σ H w r H' u w' := by
  unfold aConv at h
  have lift : ∀ {r : AV}, (∀ (σ : Sig) (w : World) (ux : Value), Rel G σ H w → AR σ w x ux → ∃ u, (convert src dst ux).run P w = .ok u w ∧ AR σ w r u) → K r H →
      ∃ r H', K r H' ∧ (∃ N, H' = H ++ N) ∧ ∀ (σ : Sig) (w : World) (ux : Value), Rel G σ H w → AR σ w x ux → ∃ u w', (convert src dst ux).run P w = .ok u w' ∧ Res G true σ H w r H' u w' := by
    intro r hr hK
    refine ⟨r, H, hK, ⟨[], by simp⟩, fun σ w ux rel hx => ?_⟩
    obtain ⟨u, h1, h2⟩ := hr σ w ux rel hx
    exact ⟨u, w, h1, Res.same rel h2⟩
  split at h
  · rename_i k n
    cases hs : P.underlying src with
    | none => simp [hs] at h
    | some ds =>
      cases hd : P.underlying dst with
      | none => cases ds <;> simp [hs, hd] at h
      | some dd =>
        cases dd with
        | int kd =>
          simp only [hs, hd] at h
          refine lift (fun σ w ux rel hx => ?_) h
          cases hx
          exact ⟨_, by simp [convert, run_underlying hs, run_underlying hd, Conv.intToInt], .v _⟩
        | string =>
          cases ds <;> simp only [hs, hd] at h <;> try (exact h.elim)
          refine lift (fun σ w ux rel hx => ?_) h
          cases hx
          exact ⟨_, by simp [convert, run_underlying hs, run_underlying hd, Conv.intToString], .v _⟩
        | _ => cases ds <;> simp [hs, hd] at h
  · rename_i s
    cases hs : P.underlying src with
    | none => simp [hs] at h
    | some ds =>
      cases ds <;> simp only [hs] at h <;> try (exact h.elim)
      cases hd : P.underlying dst with
      | none => simp [hd] at h
      | some dd =>
        cases dd <;> simp only [hd] at h <;> try (exact h.elim)
        · refine lift (fun σ w ux rel hx => ?_) h
          cases hx
          exact ⟨_, by simp [convert, run_underlying hs, run_underlying hd], .v _⟩
        · rename_i e
          obtain ⟨he, hK⟩ := h
          refine ⟨_, _, hK, ⟨_, rfl⟩, fun σ w ux rel hx => ?_⟩
          cases hx
          have hcap := grownCap_ge w s.size 0 e
          let C : Array Value := (s.data.map fun b => Value.int .u8 b.toNat) ++ Array.replicate (grownCap w s.size 0 e - s.size) (.int .u8 0)
          have hCs : C.size = grownCap w s.size 0 e := by
            simp only [C, Array.size_append, Array.size_map, Array.size_replicate]
            have : s.data.size = s.size := rfl
            omega
          have hbl : (ints .u8 (bytesOf s)).length = s.size := by rw [ints_length, bytesOf, List.length_map]; rfl
          obtain ⟨p1, p2, p3⟩ := (drewRel rel).push (ints .u8 (bytesOf s)) C e (0, 0) (.inr rfl) (by rw [hbl, hCs]; exact hcap) (fun j hj => by
            rw [hbl] at hj
            have hj' : j < s.data.size := hj
            rw [ints_get (by rw [← ints_length .u8, hbl]; exact hj)]
            have : C.getD j undef = .int .u8 ((bytesOf s).getD j 0) := by
              simp [C, bytesOf, Array.getElem?_append, hj, hj', Array.getElem?_eq_getElem hj', List.getD_eq_getElem?_getD]
            rw [this]
            exact .v _)
          have hkey : (H ++ [(⟨ints .u8 (bytesOf s), 0, true, e⟩ : Blk)])[H.length]? = some ⟨ints .u8 (bytesOf s), 0, true, e⟩ := by simp
          obtain ⟨m1, m2, m3, m4, _⟩ := p1.marked hkey rfl (l := ⟨w.drew.heap.size, 0, C.size⟩) (if_pos ⟨rfl, rfl⟩)
          refine ⟨_, (w.drew.alloc (.cells C e)).freeze ⟨w.heap.size, C.size, none⟩ 1, ?_, Res.of (m3 _ _ (AR.sl (l := ⟨w.drew.heap.size, 0, C.size⟩) (cap' := grownCap w s.size 0 e) (if_pos ⟨rfl, rfl⟩) hcap (fun h => by cases h) (by simp only [Nat.zero_add, Nat.mul_one]; rw [hCs]; exact Nat.le_refl _))) m1 (drewExt.trans (p2.trans m2)) (fun _ => ⟨fun B hB => .same ?_, push_keys⟩)⟩
          · have hsh : (w.drew.alloc (.cells C e)).shape? w.heap.size = some (e, C.size) := m4
            have hst : (Conv.stringToBytes e s).run P w = .ok (.slice (some ⟨w.heap.size, 0, none⟩) s.size (grownCap w s.size 0 e)) ((w.drew.alloc (.cells C e)).freeze ⟨w.heap.size, C.size, none⟩ 1) := by
              simp only [Conv.stringToBytes, Sem.run_bind, run_choose, Question.forced, Bool.false_eq_true, if_false, Result.andThen_ok, newRow, run_newObj, Sem.run_pure, markStringish, run_shape]
              change ((Sem.run P (match (w.drew.alloc (.cells C e)).shape? w.heap.size with | some (_, n) => freeze { block := w.heap.size, off := n } 1 | _ => pure ()) (w.drew.alloc (.cells C e))).andThen fun a w' => Result.ok (Value.slice (some ⟨w.heap.size, 0, none⟩) s.size (grownCap w s.size 0 e)) w') = _
              rw [hsh]
              rfl
            simp only [convert, run_underlying hs, run_underlying hd, run_underlying he, Sem.run_bind, Result.andThen_ok]
            exact hst
          · have h1 : (w.drew.alloc (.cells C e)).heap[B]? = w.heap[B]? := RowKit.Below.heap_alloc _ _ _ hB
            rw [← h1]
            simp only [World.freeze]
            rw [if_neg (by decide)]
            simp only [Array.getElem?_modify]
            rw [if_neg (by omega)]
  · rename_i hi hst
    cases hs : P.underlying src with
    | none => simp [hs] at h
    | some ds =>
      cases ds <;> simp only [hs] at h <;> try (exact h.elim)
      rename_i e0
      cases hd : P.underlying dst with
      | none => simp [hd] at h
      | some dd =>
        cases dd <;> simp only [hd] at h <;> try (exact h.elim)
        · obtain ⟨he, h⟩ := h
          obtain ⟨r, hK, hr⟩ := acont_u8 (K := fun r => K r H) hs hd he G (fun s e => hst s e) h
          exact lift hr hK
        · rename_i e
          obtain ⟨rfl, he, h⟩ := h
          have he0 : e0 = e := by rw [hs] at hd; simpa using hd
          subst he0
          cases x <;> try (exact h.elim)
          rename_i b ver off len cap sz xx
          obtain ⟨hpos, hk, hK⟩ := h
          refine ⟨_, _, hK, ⟨[], by simp⟩, fun σ w ux rel hx => ?_⟩
          cases hk' : H[b]? with
          | none => simp [hk'] at hk
          | some k =>
            simp only [hk'] at hk
            obtain ⟨hlv, rfl⟩ := hk
            cases hx with
            | @sl _ _ _ _ _ cap' _ _ l h h1 h2 h3 =>
              obtain ⟨m1, m2, m3, m4, m5⟩ := rel.marked hk' hlv h
              refine ⟨_, _, ?_, Res.of (m3 _ _ (.sl h h1 h2 h3)) m1 m2 (fun _ => ⟨m5, fun _ _ _ h => .inl h⟩)⟩
              simp only [convert, run_underlying hs, run_underlying he, Sem.run_bind, Result.andThen_ok, markStringish, run_shape, m4, beq_self_eq_true, run_freeze, Sem.run_pure]
            | sl0 A => omega
/-- A new variable. -/
def aAlloc (P : Program) (H : AHeap) (e : TypeId) (K : AV → AHeap → Prop) : Prop :=
  match tzero P e with
  | some z => K (.ptr H.length 0 0) (H ++ [⟨z.cells.toList.map .v, 0, true, e⟩])
  | none => False
theorem newVar_ok (r : Rel G σ H w) (e : TypeId) (v : Value) (cs : List AV) (hl : v.cells.size = cs.length) (ha : ∀ j, j < cs.length → AR σ w (cs.getD j .any) (v.cells.getD j undef)) :
    (newVar e v).run P w = .ok ⟨w.heap.size, 0, none⟩ (w.alloc (.cells v.cells e)) ∧ Res G true σ H w (.ptr H.length 0 0) (H ++ [⟨cs, 0, true, e⟩]) (.pointer (some ⟨w.heap.size, 0, none⟩)) (w.alloc (.cells v.cells e)) := by
  obtain ⟨p1, p2, p3⟩ := r.push cs v.cells e (0, 0) (.inr rfl) (by omega) ha
  exact ⟨by simp [newVar, newRow], Res.of (AR.ptr (off := 0) (l := ⟨w.heap.size, 0, v.cells.size⟩) (if_pos ⟨rfl, rfl⟩)) p1 p2 (fun _ => ⟨fun B hB => .same (RowKit.Below.heap_alloc _ _ _ hB), push_keys⟩)⟩
theorem run_zero {e : TypeId} {z : Value} (h : tzero P e = some z) : (zeroValue e).run P w = .ok z w := by
  unfold tzero at h
  cases hi : P.info? e with
  | none => simp [hi] at h
  | some i =>
    simp only [hi, Option.bind_some] at h
    simp [zeroValue, typeInfo, hi, h]
theorem flat_get (us : Array Value) : ∀ j, j < (us.toList.map AV.v).length → AR σ w ((us.toList.map AV.v).getD j .any) (us.getD j undef) := by
  intro j hj
  have hj' : j < us.size := by simpa using hj
  simp only [List.getD_eq_getElem?_getD, List.getElem?_map, Array.getElem?_toList, Array.getElem?_eq_getElem hj', Option.map_some, Option.getD_some, Array.getD_eq_getD_getElem?]
  exact .v _
theorem aAlloc_ok (G : Glob) {e : TypeId} {K : AV → AHeap → Prop} (h : aAlloc P H e K) : ∃ r H', K r H' ∧ (∃ N, H' = H ++ N) ∧ ∀ (σ : Sig) (w : World), Rel G σ H w → ∃ u w', (Instr.alloc e true (.tuple #[])).run P w = .ok u w' ∧ Res G true σ H w r H' u w' := by
  unfold aAlloc at h
  cases hz : tzero P e with
  | none => simp [hz] at h
  | some z =>
    simp only [hz] at h
    refine ⟨_, _, h, ⟨_, rfl⟩, fun σ w r => ?_⟩
    obtain ⟨h1, h2⟩ := newVar_ok (P := P) r e z (z.cells.toList.map .v) (by simp) (flat_get _)
    exact ⟨_, _, by simp only [Instr.alloc, Sem.run_bind, run_zero hz, Result.andThen_ok, h1, Sem.run_pure], h2⟩
def aBox (H : AHeap) (e : TypeId) (x : AV) (K : AV → AHeap → Prop) : Prop :=
  match vcells x with
  | some cs => K (.ptr H.length 0 0) (H ++ [⟨cs, 0, true, e⟩])
  | none => False
theorem aBox_ok (G : Glob) {e : TypeId} {x : AV} {K : AV → AHeap → Prop} (h : aBox H e x K) : ∃ r H', K r H' ∧ (∃ N, H' = H ++ N) ∧ ∀ (σ : Sig) (w : World) (ux : Value), Rel G σ H w → AR σ w x ux → ∃ u w', (Instr.box e ux).run P w = .ok u w' ∧ Res G true σ H w r H' u w' := by
  unfold aBox at h
  cases hc : vcells x with
  | none => simp [hc] at h
  | some cs =>
    simp only [hc] at h
    refine ⟨_, _, h, ⟨_, rfl⟩, fun σ w ux r hx => ?_⟩
    obtain ⟨c1, c2⟩ := vcells_ar hc hx
    obtain ⟨h1, h2⟩ := newVar_ok (P := P) r e ux cs c1 c2
    exact ⟨_, _, by simp only [Instr.box, Sem.run_bind, Result.andThen_ok, h1, Sem.run_pure], h2⟩
def aLoad (P : Program) (H : AHeap) (t : TypeId) (x : AV) (K : AV → Prop) : Prop :=
  match x with
  | .ptr b ver off => match H[b]? with
    | some k => k.live = true ∧ k.ver = ver ∧ rdP P t k.cells off K
    | none => False
  | .vptr cs off => rdP P t cs off K
  | _ => False
theorem rdP_fun {t : TypeId} {cs : List AV} {off : Nat} {K : AV → Prop} (h : rdP P t cs off K) : ∃ r, K r ∧ rdP P t cs off (· = r) := by
  unfold rdP at *
  cases hd : P.underlying t with
  | none => simp [hd] at h
  | some d =>
    have rows : (match tsz P t with | some n => off + n ≤ cs.length ∧ K (.agg ((cs.drop off).take n)) | none => False) → ∃ r, K r ∧ (match tsz P t with | some n => off + n ≤ cs.length ∧ (.agg ((cs.drop off).take n)) = r | none => False) := by
      intro h
      cases hs : tsz P t with
      | none => simp [hs] at h
      | some n =>
        simp only [hs] at h
        exact ⟨_, h.2, h.1, rfl⟩
    cases d <;> simp only [hd] at h ⊢ <;> first | exact rows h | exact ⟨_, h.2, h.1, rfl⟩
theorem aLoad_ok (G : Glob) {t : TypeId} {x : AV} {K : AV → Prop} (h : aLoad P H t x K) : ∃ r, K r ∧ ∀ (σ : Sig) (w : World) (ux : Value), Rel G σ H w → AR σ w x ux → ∃ u, (Instr.loadAt t ux).run P w = .ok u w ∧ AR σ w r u := by
  cases x <;> try (exact h.elim)
  · rename_i b ver off
    unfold aLoad at h
    cases hk : H[b]? with
    | none => simp [hk] at h
    | some k =>
      simp only [hk] at h
      obtain ⟨hlv, rfl, h⟩ := h
      obtain ⟨r, hK, h⟩ := rdP_fun h
      refine ⟨r, hK, fun σ w ux rel hx => ?_⟩
      cases hx with
      | ptr hρ =>
        obtain ⟨r', u, rfl, a1, a2⟩ := run_loadVar_mem (P := P) (rel.mem hk hlv hρ) h
        exact ⟨u, by simp only [Instr.loadAt, Instr.sureAddr, Sem.run_bind, Sem.run_pure, Result.andThen_ok, a1], a2⟩
  · rename_i cs off
    obtain ⟨r, hK, h⟩ := rdP_fun h
    refine ⟨r, hK, fun σ w ux rel hx => ?_⟩
    cases hx with
    | vptr B o uu hr hm ha =>
      obtain ⟨r', u, rfl, a1, a2⟩ := run_loadVar_mem (P := P) (Mem.of_fun hm ha) h
      exact ⟨u, by simp only [Instr.loadAt, Instr.sureAddr, Sem.run_bind, Sem.run_pure, Result.andThen_ok, a1], a2⟩
def aStore (P : Program) (H : AHeap) (t : TypeId) (x y : AV) (K : AHeap → Prop) : Prop :=
  match x with
  | .ptr b ver off => match H[b]?, vcells y with
    | some k, some c => k.live = true ∧ k.ver = ver ∧ tsz P t = some c.length ∧ c.all AV.one = true ∧ off + c.length ≤ k.cells.length ∧ K (H.set b { k with cells := splice k.cells off c })
    | _, _ => False
  | _ => False
theorem aStore_ok (G : Glob) {t : TypeId} {x y : AV} {K : AHeap → Prop} (h : aStore P H t x y K) : ∃ H', K H' ∧ ∀ (σ : Sig) (w : World) (ux uy : Value), Rel G σ H w → AR σ w x ux → AR σ w y uy → ∃ w', (Instr.storeAt t ux uy).run P w = .ok () w' ∧ Res G false σ H w (.v undef) H' undef w' := by
  cases x <;> try (exact h.elim)
  rename_i b ver off
  unfold aStore at h
  cases hk : H[b]? with
  | none => simp [hk] at h
  | some k =>
    cases hc : vcells y with
    | none => simp [hk, hc] at h
    | some c =>
      simp only [hk, hc] at h
      obtain ⟨hlv, rfl, hs, hone, hfit, hK⟩ := h
      refine ⟨_, hK, fun σ w ux uy r hx hy => ?_⟩
      cases hx with
      | ptr hρ =>
        obtain ⟨c1, c2⟩ := vcells_ar hc hy
        have c3 : ∀ j, j < c.length → AR σ w (c.getD j .any) (uy.cells.toList.getD j undef) := fun j hj => by
          have := c2 j hj
          simpa [List.getD_eq_getElem?_getD] using this
        obtain ⟨w', s1, s2, s3, s4⟩ := r.store (P := P) hk hlv hρ off c uy.cells.toList (by simp [c1]) hfit (ones_of (σ := σ) (w := w) hone (by simp [c1]) c3) c3
        refine ⟨w', ?_, Res.of (.v _) s2 s3 (fun h => by cases h)⟩
        simp only [Instr.storeAt, Instr.sureAddr, storeVar, Sem.run_bind, Sem.run_pure, Result.andThen_ok, run_sizeOf' hs, c1, ne_eq, not_true_eq_false, if_false, s1]
def aMake (P : Program) (H : AHeap) (t : TypeId) (l c : AV) (K : AV → AHeap → Prop) : Prop :=
  match P.underlying t, l, c with
  | some (.slice e), .v (.int _ n), .v (.int _ m) => match tzero P e, tsz P e, tby P e with
    | some z, some sz, some by' => z.cells.size = sz ∧ 0 < sz ∧ 0 ≤ n ∧ n ≤ m ∧ by' * m ≤ 281474976710656 ∧ m ≤ 9223372036854775807 ∧ (K (.sl H.length 0 0 n.toNat m.toNat sz true) (H ++ [⟨(List.replicate m.toNat (z.cells.toList.map .v)).flatten, 0, true, e⟩]) ∨ (n = m ∧ K (.vsl m.toNat ((List.replicate m.toNat (z.cells.toList.map .v)).flatten) (some m.toNat)) H))
    | _, _, _ => False
  | _, _, _ => False
theorem flatten_get {α : Type} {n : Nat} (z : List α) : ∀ (m : Nat) (j : Nat), z.length = n → j < m * n → ((List.replicate m z).flatten)[j]? = z[j % n]?
  | 0, j, _, h => by simp at h
  | m + 1, j, hz, h => by
    rw [List.replicate_succ, List.flatten_cons, List.getElem?_append]
    split
    · rw [Nat.mod_eq_of_lt (by omega)]
    · rename_i hj
      rw [flatten_get z m (j - z.length) hz (by rw [Nat.succ_mul] at h; omega), hz]
      congr 1
      rw [← Nat.mod_eq_sub_mod (by omega)]
theorem made_get {z : Array Value} {n m : Nat} (hz : z.size = n) (hn : 0 < n) : ∀ j, j < ((List.replicate m (z.toList.map AV.v)).flatten).length → AR σ w (((List.replicate m (z.toList.map AV.v)).flatten).getD j .any) ((madeCells z (m * n)).getD j undef) := by
  intro j hj
  have hj' : j < m * n := by simpa [hz] using hj
  rw [List.getD_eq_getElem?_getD, flatten_get _ m j (by simpa using hz) hj']
  have hlt : j % n < z.size := by rw [hz]; exact Nat.mod_lt _ hn
  have e1 : (madeCells z (m * n)).getD j undef = z[j % n] := by
    simp only [madeCells, Array.getD_eq_getD_getElem?, Array.getElem?_map, Array.getElem?_range, hj', if_true, Option.map_some, Option.getD_some, hz]
    exact getElem!_pos z _ hlt
  rw [e1]
  simp [hlt]
  exact .v _
theorem aMake_ok (G : Glob) {t : TypeId} {l c : AV} {K : AV → AHeap → Prop} (h : aMake P H t l c K) : ∃ r H', K r H' ∧ (∃ N, H' = H ++ N) ∧ ∀ (σ : Sig) (w : World) (ul uc : Value), Rel G σ H w → AR σ w l ul → AR σ w c uc → ∃ u w', (Instr.makeSlice t ul uc).run P w = .ok u w' ∧ Res G true σ H w r H' u w' := by
  unfold aMake at h
  split at h
  · rename_i e k n k' m hd
    cases hi : P.info? e with
    | none => simp [tzero, hi] at h
    | some i =>
      cases hz : i.zero with
      | none => simp [tzero, hi, hz] at h
      | some z =>
        simp only [tzero, tsz, tby, hi, hz, Option.bind_some, Option.map_some] at h
        obtain ⟨h1, h2, h3, h4, h5, h6, hK⟩ := h
        rcases hK with hK | ⟨rfl, hK⟩
        · refine ⟨_, _, hK, ⟨_, rfl⟩, fun σ w ul uc r hl hc => ?_⟩
          cases hl
          cases hc
          have hr := run_make (P := P) w t e i z hd hi hz k k' n m h3 h4 h5 h6
          obtain ⟨p1, p2, p3⟩ := r.push ((List.replicate m.toNat (z.cells.toList.map .v)).flatten) (madeCells z.cells (m.toNat * i.size)) e (0, 0) (.inr rfl) (by simp [size_madeCells, h1]) (made_get h1 h2)
          exact ⟨_, _, hr, Res.of (AR.sl (off := 0) (l := ⟨w.heap.size, 0, (madeCells z.cells (m.toNat * i.size)).size⟩) (if_pos ⟨rfl, rfl⟩) (Nat.le_refl _) (fun _ => rfl) (by simp [size_madeCells])) p1 p2 (fun _ => ⟨fun B hB => .same (RowKit.Below.heap_alloc _ _ _ hB), push_keys⟩)⟩
        · refine ⟨_, _, hK, ⟨[], by simp⟩, fun σ w ul uc r hl hc => ?_⟩
          cases hl
          cases hc
          have hr := run_make (P := P) w t e i z hd hi hz k k' n n h3 h4 h5 h6
          have hg := made_get (σ := σ) (w := w) (m := n.toNat) h1 h2
          have hlen : ((List.replicate n.toNat (z.cells.toList.map AV.v)).flatten).length = n.toNat * i.size := by simp [h1]
          obtain ⟨p1, p2, p3⟩ := r.seal (madeCells z.cells (n.toNat * i.size)) e (0, 0)
          refine ⟨_, _, hr, Res.of (AR.vsl (σ := ⟨σ.ρ, fun B => σ.ro B ∨ B = w.heap.size⟩) w.heap.size 0 n.toNat (fun j => (madeCells z.cells (n.toNat * i.size)).getD j undef) (Or.inr rfl) (fun j hj => ?_) (fun j hj => p3 _ _ (hg j hj)) (Nat.le_refl _) (fun c hc => by simpa using hc)) p1 p2 (fun _ => ⟨fun B hB => .same (RowKit.Below.heap_alloc _ _ _ hB), fun _ _ _ h => .inl h⟩)⟩
          rw [cell_of_row _ _ _ (madeCells z.cells (n.toNat * i.size)) e (0, 0) (heap_alloc_new w _), Nat.zero_add]
          exact getD_lt (by rw [size_madeCells]; omega)
  · exact h.elim
end Go.Abs
namespace Go.Abs
set_option linter.unusedVariables false
set_option linter.unusedSimpArgs false
variable {P : Program} {G : Glob} {σ : Sig} {H : AHeap} {w : World}
def afill (place : Nat → Option (Nat × Nat)) (cells : List AV) (parts : List (Nat × AV)) (K : List AV → Prop) : Prop :=
  match parts with
  | [] => K cells
  | (i, v) :: rest => match place i, vcells v with
    | some (off, size), some c => c.length = size ∧ off + size ≤ cells.length ∧ afill place (splice cells off c) rest K
    | _, _ => False
theorem foldl_fill (off : Nat) : ∀ (l : List Value) (k : Nat) (C : Array Value), off + k + l.length ≤ C.size → ((l.zipIdx k).foldl (fun (cs : Array Value) x => cs.setIfInBounds (off + x.2) x.1) C).size = C.size ∧
    ∀ j, ((l.zipIdx k).foldl (fun (cs : Array Value) x => cs.setIfInBounds (off + x.2) x.1) C)[j]? = if off + k ≤ j ∧ j < off + k + l.length then l[j - (off + k)]? else C[j]?
  | [], k, C, _ => ⟨rfl, fun j => by rw [if_neg (by simp)]; rfl⟩
  | v :: l, k, C, h => by
    simp only [List.length_cons] at h
    obtain ⟨h1, h2⟩ := foldl_fill off l (k + 1) (C.setIfInBounds (off + k) v) (by simp; omega)
    rw [List.zipIdx_cons, List.foldl_cons]
    refine ⟨h1.trans (by simp), fun j => ?_⟩
    rw [h2]
    simp only [List.length_cons]
    by_cases hj : off + (k + 1) ≤ j ∧ j < off + (k + 1) + l.length
    · rw [if_pos hj, if_pos (by omega)]
      obtain ⟨d, rfl⟩ : ∃ d, j = off + (k + 1) + d := ⟨j - (off + (k + 1)), by omega⟩
      rw [show off + (k + 1) + d - (off + (k + 1)) = d from by omega, show off + (k + 1) + d - (off + k) = d + 1 from by omega]
      simp
    · rw [if_neg hj]
      by_cases e : j = off + k
      · subst e
        rw [if_pos (by omega)]
        simp [show off + k < C.size by omega]
      · rw [if_neg (by omega), Array.getElem?_setIfInBounds_ne (fun e' => e e'.symm)]
theorem fill_arr (off : Nat) (us C : Array Value) (h : off + us.size ≤ C.size) : (us.zipIdx.foldl (fun (cs : Array Value) (c, j) => cs.setIfInBounds (off + j) c) C).size = C.size ∧
    ∀ j, (us.zipIdx.foldl (fun (cs : Array Value) (c, j) => cs.setIfInBounds (off + j) c) C)[j]? = if off ≤ j ∧ j < off + us.size then us[j - off]? else C[j]? := by
  have e : us.zipIdx.foldl (fun (cs : Array Value) (c, j) => cs.setIfInBounds (off + j) c) C = (us.toList.zipIdx 0).foldl (fun (cs : Array Value) x => cs.setIfInBounds (off + x.2) x.1) C := by
    rw [← Array.foldl_toList]
    simp
  rw [e]
  have := foldl_fill off us.toList 0 C (by simpa using h)
  simpa using this
theorem afill_ok {place : Nat → Option (Nat × Nat)} : ∀ {parts : List (Nat × AV)} {cells : List AV} {K : List AV → Prop}, afill place cells parts K → ∃ r, K r ∧ r.length = cells.length ∧
    ∀ (σ : Sig) (w : World) (C : Array Value) (us : List (Nat × Value)), C.size = cells.length → (∀ j, j < cells.length → AR σ w (cells.getD j .any) (C.getD j undef)) → us.length = parts.length → (∀ (j : Nat) (p : Nat × AV) (u : Nat × Value), parts[j]? = some p → us[j]? = some u → u.1 = p.1 ∧ AR σ w p.2 u.2) →
      ∃ C', Instr.fill place C us = some C' ∧ C'.size = r.length ∧ ∀ j, j < r.length → AR σ w (r.getD j .any) (C'.getD j undef)
  | [], cells, K, h => ⟨cells, h, rfl, fun σ w C us h1 h2 h3 h4 => by
      have : us = [] := List.eq_nil_of_length_eq_zero (by simpa using h3)
      subst this
      exact ⟨C, rfl, h1, h2⟩⟩
  | (i, v) :: rest, cells, K, h => by
    unfold afill at h
    cases hp : place i with
    | none => simp [hp] at h
    | some os =>
      obtain ⟨off, size⟩ := os
      cases hc : vcells v with
      | none => simp [hp, hc] at h
      | some c =>
        simp only [hp, hc] at h
        obtain ⟨rfl, hfit, h⟩ := h
        obtain ⟨r, hK, hl, hr⟩ := afill_ok h
        rw [splice_length hfit] at hl
        refine ⟨r, hK, hl, fun σ w C us h1 h2 h3 h4 => ?_⟩
        cases us with
        | nil => simp at h3
        | cons u us =>
          obtain ⟨e1, e2⟩ := h4 0 _ _ rfl rfl
          obtain ⟨ui, uv⟩ := u
          simp only at e1 e2
          subst e1
          obtain ⟨c1, c2⟩ := vcells_ar hc e2
          obtain ⟨f1, f2⟩ := fill_arr off uv.cells C (by omega)
          obtain ⟨C', g1, g2⟩ := hr σ w (uv.cells.zipIdx.foldl (fun (cs : Array Value) (c, j) => cs.setIfInBounds (off + j) c) C) us (by rw [f1, h1, splice_length hfit]) (fun j hj => by
            rw [splice_length hfit] at hj
            rw [List.getD_eq_getElem?_getD, splice_get hfit, Array.getD_eq_getD_getElem?, f2, c1]
            by_cases hjr : off ≤ j ∧ j < off + c.length
            · rw [if_pos hjr, if_pos hjr, ← List.getD_eq_getElem?_getD, ← Array.getD_eq_getD_getElem?]
              exact c2 (j - off) (by omega)
            · rw [if_neg hjr, if_neg hjr, ← List.getD_eq_getElem?_getD, ← Array.getD_eq_getD_getElem?]
              exact h2 j hj) (by simpa using h3) (fun j p u hp hu => h4 (j + 1) p u (by simpa using hp) (by simpa using hu))
          refine ⟨C', ?_, g2⟩
          unfold Instr.fill
          simp only [hp]
          rw [if_neg (by simp [c1]; omega)]
          exact g1
def aBuild (P : Program) (t : TypeId) (parts : List (Nat × AV)) (K : AV → Prop) : Prop :=
  match P.underlying t with
  | some (.array _ e) => match tzero P t, tsz P e with
    | some z, some s => afill (fun i => some (i * s, s)) (z.cells.toList.map .v) parts fun cs => K (.agg cs)
    | _, _ => False
  | some (.struct fs) => match tzero P t, fs.toList.mapM (fun f => (tsz P f.type).map fun n => (f.offset, n)) with
    | some z, some places => afill (fun i => places[i]?) (z.cells.toList.map .v) parts fun cs => K (.agg cs)
    | _, _ => False
  | _ => False
theorem parts_ar {parts : Array (Nat × Operand)} {env : Operand → AV} {a : Act} (h : ∀ p ∈ parts.toList, AR σ w (env p.2) (a.eval p.2)) :
    ∀ (j : Nat) (p : Nat × AV) (u : Nat × Value), (parts.toList.map fun p => (p.1, env p.2))[j]? = some p → (parts.map fun (i, x) => (i, a.eval x)).toList[j]? = some u → u.1 = p.1 ∧ AR σ w p.2 u.2 := by
  intro j p u hp hu
  simp only [List.getElem?_map, Option.map_eq_some_iff, Array.toList_map] at hp hu
  obtain ⟨q, hq, rfl⟩ := hp
  obtain ⟨q', hq', rfl⟩ := hu
  rw [hq] at hq'
  cases hq'
  exact ⟨rfl, h q (List.mem_of_getElem? hq)⟩
theorem aBuild_ok {t : TypeId} {parts : Array (Nat × Operand)} {env : Operand → AV} {K : AV → Prop} (h : aBuild P t (parts.toList.map fun p => (p.1, env p.2)) K) :
    ∃ r, K r ∧ ∀ (σ : Sig) (w : World) (a : Act), (∀ p ∈ parts.toList, AR σ w (env p.2) (a.eval p.2)) → ∃ u, (Instr.build t (parts.map fun (i, x) => (i, a.eval x))).run P w = .ok u w ∧ AR σ w r u := by
  unfold aBuild at h
  cases hd : P.underlying t with
  | none => simp [hd] at h
  | some d =>
    cases hit : P.info? t with
    | none => cases d <;> simp [hd, tzero, hit] at h
    | some it =>
      cases hz : it.zero with
      | none => cases d <;> simp [hd, tzero, hit, hz] at h
      | some z =>
        have fin : ∀ place, (afill place (z.cells.toList.map .v) (parts.toList.map fun p => (p.1, env p.2)) fun cs => K (.agg cs)) → (∀ us, P.built t us = Instr.fill place z.cells us) →
            ∃ r, K r ∧ ∀ (σ : Sig) (w : World) (a : Act), (∀ p ∈ parts.toList, AR σ w (env p.2) (a.eval p.2)) → ∃ u, (Instr.build t (parts.map fun (i, x) => (i, a.eval x))).run P w = .ok u w ∧ AR σ w r u := by
          intro place h hb
          obtain ⟨r, hK, hl, hr⟩ := afill_ok h
          refine ⟨_, hK, fun σ w a hp => ?_⟩
          obtain ⟨C', g1, g2, g3⟩ := hr σ w z.cells (parts.map fun (i, x) => (i, a.eval x)).toList (by simp) (flat_get _) (by simp) (parts_ar hp)
          exact ⟨.agg C', run_build w t _ C' (by rw [hb]; exact g1), .agg C' g2 g3⟩
        cases d with
        | array n e =>
          cases hie : P.info? e with
          | none => simp [hd, tzero, hit, hz, tsz, hie] at h
          | some ie =>
            simp only [hd, tzero, hit, hz, tsz, hie, Option.bind_some, Option.map_some] at h
            exact fin _ h (fun us => by simp only [Program.built, hit, hd, hz, hie])
        | struct fs =>
          simp only [hd, tzero, hit, hz, Option.bind_some] at h
          have e : (fs.toList.mapM fun f => (tsz P f.type).map fun n => (f.offset, n)) = fs.toList.mapM fun f => (P.info? f.type).map fun i => (f.offset, i.size) := by
            congr 1
            funext f
            simp [tsz]
            cases P.info? f.type <;> rfl
          rw [e] at h
          cases hp : fs.toList.mapM fun f => (P.info? f.type).map fun i => (f.offset, i.size) with
          | none => simp [hp] at h
          | some places =>
            simp only [hp] at h
            exact fin _ h (fun us => by simp only [Program.built, hit, hd, hz, hp, List.getElem?_toArray])
        | _ => simp [hd] at h
def aBSlice (P : Program) (H : AHeap) (nx : Bool) (t : TypeId) (len : Nat) (parts : List (Nat × AV)) (K : AV → AHeap → Prop) : Prop :=
  match P.underlying t with
  | some (.slice e) => match tzero P e, tsz P e with
    | some z, some s => z.cells.size = s ∧ 0 < s ∧ len * s ≤ 16777216 ∧ afill (fun i => some (i * s, s)) ((List.replicate len (z.cells.toList.map .v)).flatten) parts fun cs =>
        if nx then K (.sl H.length 0 0 len len s true) (H ++ [⟨cs, 0, true, e⟩]) else K (.vsl len cs (some len)) H
    | _, _ => False
  | _ => False
theorem aBSlice_ok (G : Glob) {nx : Bool} {t : TypeId} {len : Nat} {parts : Array (Nat × Operand)} {env : Operand → AV} {K : AV → AHeap → Prop} (h : aBSlice P H nx t len (parts.toList.map fun p => (p.1, env p.2)) K) :
    ∃ r H', K r H' ∧ (∃ N, H' = H ++ N) ∧ ∀ (σ : Sig) (w : World) (a : Act), Rel G σ H w → (∀ p ∈ parts.toList, AR σ w (env p.2) (a.eval p.2)) → ∃ u w', (Instr.buildSlice t len (parts.map fun (i, x) => (i, a.eval x))).run P w = .ok u w' ∧ Res G true σ H w r H' u w' := by
  unfold aBSlice at h
  cases hd : P.underlying t with
  | none => simp [hd] at h
  | some d =>
    cases d <;> simp only [hd] at h <;> try (exact h.elim)
    rename_i e
    cases hi : P.info? e with
    | none => simp [tzero, hi] at h
    | some i =>
      cases hz : i.zero with
      | none => simp [tzero, hi, hz] at h
      | some z =>
        simp only [tzero, tsz, hi, hz, Option.bind_some, Option.map_some] at h
        obtain ⟨h1, h2, h3, h⟩ := h
        obtain ⟨r, hK, hl, hr⟩ := afill_ok h
        have hl' : r.length = len * i.size := by rw [hl]; simp [h1]
        have key : ∀ (σ : Sig) (w : World) (a : Act), Rel G σ H w → (∀ p ∈ parts.toList, AR σ w (env p.2) (a.eval p.2)) → ∃ C, (Instr.buildSlice t len (parts.map fun (i, x) => (i, a.eval x))).run P w = .ok (.slice (some ⟨w.heap.size, 0, none⟩) len len) (w.alloc (.cells C e)) ∧
            C.size = r.length ∧ ∀ j, j < r.length → AR σ w (r.getD j .any) (C.getD j undef) := by
          intro σ w a rel hp
          obtain ⟨C', g1, g2, g3⟩ := hr σ w (madeCells z.cells (len * i.size)) (parts.map fun (i, x) => (i, a.eval x)).toList (by simp [size_madeCells, h1]) (made_get h1 h2) (by simp) (parts_ar hp)
          refine ⟨C', ?_, g2, g3⟩
          have n1 : ¬ (16777216 < len * i.size) := by omega
          by_cases h0 : len * i.size = 0
          · have g1' : Instr.fill (fun k => some (k * i.size, i.size)) ((Array.range (len * i.size)).map ((#[] : Array Value)[· % 0]!)) (parts.map fun (k, x) => (k, a.eval x)).toList = some C' := by
              rw [← g1]
              congr 1
              rw [h0]
              simp [madeCells]
            rw [h0] at g1'
            simp only [Instr.buildSlice, run_underlying hd, sizeOf, typeInfo, hi, Sem.run_bind, Sem.run_pure, Result.andThen_ok, run_program, h0, if_true, Nat.reducePow, gt_iff_lt, Nat.not_lt_zero, if_false, Array.size_empty, g1', newRow, run_newObj]
            rfl
          · have g1' : Instr.fill (fun k => some (k * i.size, i.size)) ((Array.range (len * i.size)).map (z.cells[· % z.cells.size]!)) (parts.map fun (k, x) => (k, a.eval x)).toList = some C' := g1
            simp only [Instr.buildSlice, run_underlying hd, sizeOf, typeInfo, zeroValue, hi, hz, Sem.run_bind, Sem.run_pure, Result.andThen_ok, run_program, h0, if_false, Nat.reducePow, gt_iff_lt, n1, g1', newRow, run_newObj]
            rfl
        cases nx with
        | true =>
          rw [if_pos rfl] at hK
          refine ⟨_, _, hK, ⟨_, rfl⟩, fun σ w a rel hp => ?_⟩
          obtain ⟨C, k1, k2, k3⟩ := key σ w a rel hp
          obtain ⟨p1, p2, p3⟩ := rel.push r C e (0, 0) (.inr rfl) (by omega) k3
          exact ⟨_, _, k1, Res.of (AR.sl (off := 0) (l := ⟨w.heap.size, 0, C.size⟩) (if_pos ⟨rfl, rfl⟩) (Nat.le_refl _) (fun _ => rfl) (by simp; omega)) p1 p2 (fun _ => ⟨fun B hB => .same (RowKit.Below.heap_alloc _ _ _ hB), push_keys⟩)⟩
        | false =>
          rw [if_neg (by decide)] at hK
          refine ⟨_, _, hK, ⟨[], by simp⟩, fun σ w a rel hp => ?_⟩
          obtain ⟨C, k1, k2, k3⟩ := key σ w a rel hp
          obtain ⟨p1, p2, p3⟩ := rel.seal C e (0, 0)
          refine ⟨_, _, k1, Res.of (AR.vsl (σ := ⟨σ.ρ, fun B => σ.ro B ∨ B = w.heap.size⟩) w.heap.size 0 len (fun j => C.getD j undef) (Or.inr rfl) (fun j hj => ?_) (fun j hj => p3 _ _ (k3 j hj)) (Nat.le_refl _) (fun c hc => by simpa using hc)) p1 p2 (fun _ => ⟨fun B hB => .same (RowKit.Below.heap_alloc _ _ _ hB), fun _ _ _ h => .inl h⟩)⟩
          rw [cell_of_row _ _ _ C e (0, 0) (heap_alloc_new w _), Nat.zero_add]
          exact getD_lt (by omega)
end Go.Abs
namespace Go.Abs
set_option linter.unusedVariables false
set_option linter.unusedSimpArgs false
variable {P : Program} {G : Glob} {σ : Sig} {H : AHeap} {w : World}
/-- Nothing is said of a block any more. -/
theorem Rel.kill (r : Rel G σ H w) {b : Nat} {k : Blk} (hk : H[b]? = some k) : Rel G σ (H.set b { k with live := false }) w ∧ Ext σ H w σ (H.set b { k with live := false }) w := by
  have hlt : b < H.length := (List.getElem?_eq_some_iff.1 hk).1
  have hget : ∀ (b' : Nat) (k' : Blk), (H.set b { k with live := false })[b']? = some k' → k'.live = true → H[b']? = some k' := by
    intro b' k' h h2
    rw [List.getElem?_set] at h
    split at h
    · rename_i e
      subst e
      try rw [if_pos hlt] at h
      cases h
      cases h2
    · exact h
  refine ⟨⟨fun b' k' l' h1 h2 h3 => r.blk b' k' l' (hget _ _ h1 h2) h2 h3, fun b1 b2 k1 k2 l1 l2 h1 h2 h3 g1 g2 g3 => r.inj b1 b2 k1 k2 l1 l2 (hget _ _ h1 h2) h2 h3 (hget _ _ g1 g2) g2 g3, fun b' k' l' h1 h2 h3 => r.apart b' k' l' (hget _ _ h1 h2) h2 h3, r.roLt, fun b' ver l' h => ?_, r.glob, r.base0⟩,
    ⟨rfl, rfl, rfl, Nat.le_refl _, fun _ _ _ h => h, fun _ h => h, fun _ _ _ => rfl, fun _ _ _ h => .inl h, fun b' k' l' h1 h2 h3 => ⟨k', hget _ _ h1 h2, h2, rfl⟩, fun B h => .inl h, by simp⟩⟩
  obtain ⟨k0, a1, a2⟩ := r.fresh b' ver l' h
  by_cases e : b' = b
  · subst e
    rw [hk] at a1
    cases a1
    exact ⟨_, List.getElem?_set_self hlt, a2⟩
  · exact ⟨k0, by rw [List.getElem?_set_ne (fun e' => e e'.symm)]; exact a1, a2⟩
/-- A block is let go of; what lay there may be turned. -/
theorem Rel.gone (r : Rel G σ H w) {b : Nat} {k : Blk} {l : Loc} (hk : H[b]? = some k) (hlv : k.live = true) (hl : σ.ρ b k.ver = some l) {w' : World} (hother : ∀ B, B ≠ l.B → w'.heap[B]? = w.heap[B]?) (hsize : w'.heap.size = w.heap.size) (ho : w'.os = w.os) (ht : w'.tape = w.tape) (hp : w'.output = w.output) :
    Rel G σ (H.set b { k with live := false }) w' ∧ Ext σ H w σ (H.set b { k with live := false }) w' := by
  have hlt : b < H.length := (List.getElem?_eq_some_iff.1 hk).1
  have hro : ∀ B, σ.ro B → w'.heap[B]? = w.heap[B]? := fun B hB => hother B (fun e => r.apart b k l hk hlv hl (e ▸ hB))
  have hm : ∀ x u, AR σ w x u → AR σ w' x u := fun x u h => h.mono (fun _ _ _ h => h) (fun _ h => h) hro
  obtain ⟨r1, x1⟩ := r.kill hk
  refine ⟨⟨fun b' k' l' h1 h2 h3 => ?_, r1.inj, r1.apart, fun B hB => by rw [hsize]; exact r.roLt B hB, r1.fresh, fun g => hm _ _ (r.glob g), r.base0⟩,
    ⟨ho, ht, hp, by rw [hsize]; exact Nat.le_refl _, fun _ _ _ h => h, fun _ h => h, fun B _ hn => hother B (fun e => hn ⟨b, k, l, hk, hlv, hl, e.symm⟩), fun _ _ _ h => .inl h, x1.stay, fun _ h => .inl h, by simp⟩⟩
  have hne : b' ≠ b := by
    rintro rfl
    rw [List.getElem?_set_self hlt] at h1
    cases h1
    cases h2
  have h1' : H[b']? = some k' := by rwa [List.getElem?_set_ne (fun e => hne e.symm)] at h1
  obtain ⟨C, fr, c1, c2, c3, c4, c5⟩ := r1.blk b' k' l' h1 h2 h3
  refine ⟨C, fr, by rw [hother _ (fun e => hne (r.inj b' b k' k l' l h1' h2 h3 hk hlv hl e))]; exact c1, c2, c3, c4, fun j hj => ?_⟩
  obtain ⟨u, d1, d2⟩ := c5 j hj
  exact ⟨u, d1, hm _ _ d2⟩
def aUsd (x : AV) (K : AV → Prop) : Prop :=
  match x with
  | .bsl b v n => K (.usd b v n)
  | _ => False
theorem aUsd_ok {x : AV} {K : AV → Prop} (h : aUsd x K) (ts : Array TypeId) (ty : TypeId) : ∃ r, K r ∧ ∀ (σ : Sig) (w : World) (ux : Value), AR σ w x ux → ∃ u, (Builtin.unsafeSliceData_ ts ty #[ux]).run P w = .ok u w ∧ AR σ w r u := by
  unfold aUsd at h
  split at h
  · refine ⟨_, h, fun σ w ux hx => ?_⟩
    cases hx with
    | bsl0 => exact ⟨_, Lib.run_unsafeSliceData_nil w ts ty 0 0, .usd0 _⟩
    | bsl h h0 hc hl => exact ⟨_, Lib.run_unsafeSliceData_row w ts ty _ _ _ (by omega), .usd h⟩
  · exact h.elim
def u8s (cs : List AV) : Prop := ∀ c ∈ cs, match c with | .v (.int .u8 x) => 0 ≤ x ∧ x ≤ 255 | _ => False
theorem u8s_ints {l : List Int} : u8s (ints .u8 l) ↔ ∀ x ∈ l, 0 ≤ x ∧ x ≤ 255 := by simp [u8s, ints]
def aUst (P : Program) (H : AHeap) (pt : TypeId) (x y : AV) (K : AV → AHeap → Prop) : Prop :=
  match x, y with
  | .usd b ver n, .v (.int .i64 m) => m = n ∧ n ≤ 9223372036854775807 ∧ (match P.underlying pt, H[b]? with
    | some (.pointer e), some k => k.live = true ∧ k.ver = ver ∧ k.elem = e ∧ tsz P e = some 1 ∧ n = k.cells.length ∧ u8s k.cells ∧ ∃ l, k.cells = ints .u8 l ∧ K (.v (.string (strOf l))) (H.set b { k with live := false })
    | _, _ => False)
  | _, _ => False
theorem aUst_ok (G : Glob) {pt it ty : TypeId} {x y : AV} {K : AV → AHeap → Prop} (h : aUst P H pt x y K) :
    ∃ r H', K r H' ∧ ∀ (σ : Sig) (w : World) (ux uy : Value), Rel G σ H w → AR σ w x ux → AR σ w y uy → ∃ u w', (Builtin.unsafeString_ #[pt, it] ty #[ux, uy]).run P w = .ok u w' ∧ Res G false σ H w r H' u w' := by
  unfold aUst at h
  split at h
  · rename_i b ver n m
    obtain ⟨rfl, h63, h⟩ := h
    split at h
    · rename_i e k hp hk
      obtain ⟨hlv, rfl, rfl, hsz, rfl, hb, l, hl, hK⟩ := h
      rw [hl, u8s_ints] at hb
      refine ⟨_, _, hK, fun σ w ux uy r hx hy => ?_⟩
      have hn : k.cells.length = l.length := by rw [hl, ints_length]
      cases hy
      by_cases h0 : l = []
      · subst h0
        obtain ⟨r', x'⟩ := r.kill hk
        have hz : k.cells.length = 0 := by rw [hn]; rfl
        rw [hz] at hx ⊢
        have key : ∀ p : Option Addr, ux = .pointer p → ∃ u w', (Builtin.unsafeString_ #[pt, it] ty #[ux, .int .i64 ((0 : Nat) : Int)]).run P w = .ok u w' ∧ Res G false σ H w (.v (.string (strOf []))) (H.set b { k with live := false }) u w' := by
          rintro p rfl
          refine ⟨_, _, Lib.run_unsafeString_none w pt it ty p, σ, ?_, r', x', fun h => by cases h⟩
          exact .v _
        cases hx with
        | usd0 p => exact key p rfl
        | usd h => exact key _ rfl
      · have hpos : 0 < l.length := List.length_pos_iff.2 h0
        have hx : ∃ l0, σ.ρ b k.ver = some l0 ∧ ux = .pointer (some ⟨l0.B, l0.base, none⟩) := by
          generalize hq : k.cells.length = q at hx
          cases hx with
          | usd0 p => omega
          | usd h => exact ⟨_, h, rfl⟩
        obtain ⟨l0, hρ, rfl⟩ := hx
        have hbase := r.base0 _ _ _ hρ
        obtain ⟨C, fr, c1, c2, c3, c4, c5⟩ := r.blk b k l0 hk hlv hρ
        rw [hbase] at c3 c5 ⊢
        have hs1 : P.cellsOf k.elem = 1 := by
          unfold tsz at hsz
          obtain ⟨i, hi, hi1⟩ := Option.map_eq_some_iff.1 hsz
          simp [Program.cellsOf, hi, hi1]
        have hcell : ∀ (j : Nat) (x : UInt8), (l.map fun n => UInt8.ofNat n.toNat)[j]? = some x → w.cell? ((⟨l0.B, 0, none⟩ : Addr).add j) = some (.int .u8 x.toNat) := by
          intro j x hj
          have hjl : j < l.length := by
            have := (List.getElem?_eq_some_iff.1 hj).1
            simpa using this
          obtain ⟨u, d1, d2⟩ := c5 j (by omega)
          rw [hl, ints_get hjl] at d2
          cases d2
          have hx : x = UInt8.ofNat (l[j]).toNat := by
            rw [List.getElem?_map, List.getElem?_eq_getElem hjl] at hj
            exact (Option.some.inj hj).symm
          have hr := hb l[j] (List.getElem_mem hjl)
          have hv : ((x.toNat : Nat) : Int) = l.getD j 0 := by
            rw [hx, UInt8.toNat_ofNat', List.getD_eq_getElem?_getD, List.getElem?_eq_getElem hjl]
            simp only [Option.getD_some]
            omega
          rw [hv, Addr.add_lit]
          simp only [World.cell?, c1]
          simpa using d1
        have hlen : (l.map fun n => UInt8.ofNat n.toNat).length = k.cells.length := by simp [hn]
        have hrun := Lib.run_unsafeString_row (P := P) w pt it ty k.elem hp hs1 l0.B l0.lim (by simp [World.shape?, c1, c2]) (l.map fun n => UInt8.ofNat n.toNat) (by simpa using h0) (by omega) (by omega) hcell
        rw [hlen] at hrun
        obtain ⟨r', x'⟩ := r.gone hk hlv hρ (w' := w.freeze ⟨l0.B, 0, none⟩ k.cells.length) (fun B hB => by
          unfold World.freeze
          split
          · rfl
          · simp only [Array.getElem?_modify]
            rw [if_neg (fun e => hB e.symm)]) (by unfold World.freeze; split <;> simp) (by unfold World.freeze; split <;> rfl) (by unfold World.freeze; split <;> rfl) (by unfold World.freeze; split <;> rfl)
        exact ⟨_, _, hrun, σ, .v _, r', x', fun h => by cases h⟩
    · exact h.elim
  · exact h.elim
end Go.Abs
namespace Go.Abs
set_option linter.unusedVariables false
set_option linter.unusedSimpArgs false
variable {P : Program} {G : Glob} {σ : Sig} {H : AHeap} {w : World}
/-- A slice, as an array behind a pointer. -/
def aArr (P : Program) (t : TypeId) (x : AV) (K : AV → Prop) : Prop :=
  match P.underlying t with
  | some (.array n _) => 0 < n ∧ match x with
    | .sl b ver off len _ _ _ => n ≤ len ∧ K (.ptr b ver off)
    | .vsl len cs _ => n ≤ len ∧ K (.vptr cs 0)
    | _ => False
  | _ => False
theorem aArr_ok {t : TypeId} {x : AV} {K : AV → Prop} (h : aArr P t x K) : ∃ r, K r ∧ ∀ (σ : Sig) (w : World) (ux : Value), AR σ w x ux → ∃ u, (Instr.arrayAt t ux).run P w = .ok u w ∧ AR σ w r u := by
  unfold aArr at h
  cases hd : P.underlying t with
  | none => simp [hd] at h
  | some d =>
    cases d <;> simp only [hd] at h <;> try (exact h.elim)
    rename_i n e
    obtain ⟨h0, h⟩ := h
    cases x <;> simp only at h <;> try (exact h.elim)
    · rename_i b ver off len cap sz xx
      obtain ⟨h1, hK⟩ := h
      refine ⟨_, hK, fun σ w ux hx => ?_⟩
      cases hx with
      | sl hρ g1 g2 g3 => exact ⟨_, by simp [Instr.arrayAt, run_underlying hd, show ¬ len < n by omega], .ptr hρ⟩
      | sl0 A => omega
    · rename_i len cs cx
      obtain ⟨h1, hK⟩ := h
      refine ⟨_, hK, fun σ w ux hx => ?_⟩
      cases hx with
      | vsl B o c' uu hr hm ha hle hx' => exact ⟨_, by simp [Instr.arrayAt, run_underlying hd, show ¬ len < n by omega], .vptr (off := 0) B o uu hr hm ha⟩
      | vsl0 A c' hx' => omega
def aUb (x : AV) : Prop :=
  match x with
  | .v (.bool _) => True
  | .ub => True
  | _ => False
theorem aUb_ok {x : AV} (h : aUb x) {u : Value} (hu : AR σ w x u) : AR σ w .ub u := by
  unfold aUb at h
  split at h
  · cases hu; exact .ub _
  · exact hu
  · exact h.elim
def aMM (x y : AV) (f : Int → Int → Int) (K : AV → Prop) : Prop :=
  match x, y with
  | .v (.int k a), .v (.int _ b) => K (.v (.int k (f a b)))
  | _, _ => False
def nxOf : List Oper → Bool
  | { op := .convert _ _ _, .. } :: _ => true
  | _ => false
def aop (P : Program) (G : Glob) (q nx : Bool) (env : Operand → AV) (H : AHeap) (o : Oper) (K : AV → AHeap → Prop) : Prop :=
  match o.op with
  | .move x => K (env x) H
  | .assign x => K (env x) H
  | .pick c a b => match env c with
    | .v (.bool t) => K (if t then env a else env b) H
    | .ub => aUb (env a) ∧ aUb (env b) ∧ K .ub H
    | _ => False
  | .alloc e => aAlloc P H e K
  | .box e x => aBox H e (env x) K
  | .build t parts => aBuild P t (parts.toList.map fun p => (p.1, env p.2)) fun r => K r H
  | .buildSlice t len parts => aBSlice P H nx t len (parts.toList.map fun p => (p.1, env p.2)) K
  | .load t x => aLoad P H t (env x) fun r => K r H
  | .store t x y => q = false ∧ aStore P H t (env x) (env y) fun H' => K (.v undef) H'
  | .nilCheck x => match env x with | .ptr _ _ _ => K (env x) H | .vptr _ _ => K (env x) H | .fn (.func _) _ => K (env x) H | _ => False
  | .binOp op t x y _ => aBinO P op t y (env x) (env y) fun r => K r H
  | .unOp op _ x => aUn op (env x) fun r => K r H
  | .convert s d x => aConv P H s d (env x) K
  | .sliceToArrayPointer t x => aArr P t (env x) fun r => K r H
  | .makeFunc f first cap => first.size = 0 ∧ K (.fn f (cap.toList.map env)) H
  | .makeInterface t x => P.concrete t = true ∧ K (.ifc t (env x)) H
  | .makeSlice t l c => aMake P H t (env l) (env c) K
  | .slice t x lo hi mx => aSlice P H t (env x) (lo.map env) (hi.map env) (mx.map env) fun r => K r H
  | .fieldAddr t x f => aFldAddr P t (env x) f fun r => K r H
  | .field t x f => aFld P t (env x) f fun r => K r H
  | .indexAddr t x i => aIdxAddr P t (env x) (env i) fun r => K r H
  | .index t x i => aIdx P t (env x) (env i) fun r => K r H
  | .extract x i => aExt (env x) i fun r => K r H
  | .call c => match c.callee with
    | .builtin .len => match c.args.toList, c.argTypes.toList with | [x], [t] => aLen P t (env x) fun r => K r H | _, _ => False
    | .builtin .append => match c.args.toList, c.argTypes.toList with
      | [s, x], [t, u] => (match P.underlying t with
        | some (.slice e) => match tzero P e, tsz P e, tby P e with
          | some z, some sz, some by' => z.cells.size = sz ∧ (if q = true then Row P u ∧ acont H sz (env x) fun m cs => aappQ P H e sz by' (env s) m cs K else if isIntT P u then aappZ P H e sz by' z (env s) (env x) K else Row P u ∧ acont H sz (env x) fun m cs => aapp P H e sz by' (env s) m cs K)
          | _, _, _ => False
        | _ => False)
      | _, _ => False
    | .builtin .unsafeSliceData => match c.args.toList with | [x] => aUsd (env x) fun r => K r H | _ => False
    | .builtin .unsafeString => match c.args.toList, c.argTypes.toList with | [x, y], [t, _] => q = false ∧ aUst P H t (env x) (env y) K | _, _ => False
    | .builtin .cap => match c.args.toList, c.argTypes.toList with | [x], [t] => aCap P t (env x) fun r => K r H | _, _ => False
    | .builtin .copy => match c.args.toList, c.argTypes.toList with
      | [d, s], [t, _] => q = false ∧ (match P.underlying t with
        | some (.slice e) => match tsz P e with
          | some sz => acont H sz (env s) fun n cs => aCopy H (env d) n cs K
          | none => False
        | _ => False)
      | _, _ => False
    | .builtin .min => match c.args.toList with | [x, y] => aMM (env x) (env y) (fun a b => if b < a then b else a) fun r => K r H | _ => False
    | .builtin .max => match c.args.toList with | [x, y] => aMM (env x) (env y) (fun a b => if b > a then b else a) fun r => K r H | _ => False
    | .value f => match env f with
      | .fn (.func n) caps => ∃ r H', ACallX P G q n (c.args.toList.map env ++ caps) H r H' ∧ (q = true → ∃ N, H' = H ++ N) ∧ K r H'
      | _ => False
    | _ => False
  | _ => False
theorem weakQ {q q' : Bool} {r : AV} {H' : AHeap} {u : Value} {w' : World} (h : Res G q σ H w r H' u w') (hq : q' = true → q = true) : Res G q' σ H w r H' u w' := by
  obtain ⟨σ', a, b, c, d⟩ := h
  exact ⟨σ', a, b, c, fun h => d (hq h)⟩
theorem some_out {o : Oper} {q : Bool} {env : Operand → AV} {r : AV} (h : ∀ (σ : Sig) (w : World) (a : Act), (∀ x, x ∈ o.op.operands → AR σ w (env x) (a.eval x)) → Rel G σ H w → ∃ u, (execOp a.eval o).run P w = .ok (.value u) w ∧ AR σ w r u) : OpOk P G q o env H r H :=
  OpOk.run fun σ w a hx rel => by
    obtain ⟨u, h1, h2⟩ := h σ w a hx rel
    exact ⟨u, w, .inl h1, Res.same rel h2⟩
theorem aop_ok {q nx : Bool} {env : Operand → AV} {o : Oper} {K : AV → AHeap → Prop} (h : aop P G q nx env H o K) : ∃ r H', K r H' ∧ OpOk P G q o env H r H' ∧ (q = true → ∃ N, H' = H ++ N) := by
  have nilN : q = true → ∃ N, H = H ++ N := fun _ => ⟨[], by simp⟩
  unfold aop at h
  cases ho : o.op with
  | move x =>
    simp only [ho] at h
    exact ⟨_, _, h, some_out fun σ w a hx rel => ⟨a.eval x, by simp [execOp, ho], hx x (by simp [ho, Op.operands])⟩, nilN⟩
  | assign x =>
    simp only [ho] at h
    exact ⟨_, _, h, some_out fun σ w a hx rel => ⟨a.eval x, by simp [execOp, ho], hx x (by simp [ho, Op.operands])⟩, nilN⟩
  | pick c a b =>
    simp only [ho] at h
    split at h
    · rename_i t hc
      refine ⟨_, _, h, some_out fun σ w ac hx rel => ?_, nilN⟩
      have h1 := hx c (by simp [ho, Op.operands])
      have h2 := hx a (by simp [ho, Op.operands])
      have h3 := hx b (by simp [ho, Op.operands])
      rw [hc] at h1
      generalize hcv : ac.eval c = uc at *
      cases h1
      cases t
      · exact ⟨ac.eval b, by simp [execOp, ho, hcv, asBool], h3⟩
      · exact ⟨ac.eval a, by simp [execOp, ho, hcv, asBool], h2⟩
    · rename_i hc
      obtain ⟨ha, hb, hK⟩ := h
      refine ⟨_, _, hK, some_out fun σ w ac hx rel => ?_, nilN⟩
      have h1 := hx c (by simp [ho, Op.operands])
      have h2 := hx a (by simp [ho, Op.operands])
      have h3 := hx b (by simp [ho, Op.operands])
      rw [hc] at h1
      generalize hcv : ac.eval c = uc at *
      cases h1 with
      | ub t =>
        cases t
        · exact ⟨ac.eval b, by simp [execOp, ho, hcv, asBool], aUb_ok hb h3⟩
        · exact ⟨ac.eval a, by simp [execOp, ho, hcv, asBool], aUb_ok ha h2⟩
    · exact h.elim
  | alloc e =>
    simp only [ho] at h
    obtain ⟨r, H', hK, hN, hr⟩ := aAlloc_ok G h
    refine ⟨r, H', hK, OpOk.run fun σ w a hx rel => ?_, fun _ => hN⟩
    obtain ⟨u, w', h1, h2⟩ := hr σ w rel
    exact ⟨u, w', .inl (by simp [execOp, ho, h1]), weakQ h2 fun _ => rfl⟩
  | box e x =>
    simp only [ho] at h
    obtain ⟨r, H', hK, hN, hr⟩ := aBox_ok (P := P) G h
    refine ⟨r, H', hK, OpOk.run fun σ w a hx rel => ?_, fun _ => hN⟩
    obtain ⟨u, w', h1, h2⟩ := hr σ w _ rel (hx x (by simp [ho, Op.operands]))
    exact ⟨u, w', .inl (by simp [execOp, ho, h1]), weakQ h2 fun _ => rfl⟩
  | build t parts =>
    simp only [ho] at h
    obtain ⟨r, hK, hr⟩ := aBuild_ok h
    refine ⟨r, _, hK, some_out fun σ w a hx rel => ?_, nilN⟩
    obtain ⟨u, h1, h2⟩ := hr σ w a (fun p hp => hx p.2 (by
      simp only [ho, Op.operands, List.mem_toArray, List.mem_map]
      exact ⟨p, hp, rfl⟩))
    exact ⟨u, by simp [execOp, ho, h1], h2⟩
  | buildSlice t len parts =>
    simp only [ho] at h
    obtain ⟨r, H', hK, hN, hr⟩ := aBSlice_ok G h
    refine ⟨r, H', hK, OpOk.run fun σ w a hx rel => ?_, fun _ => hN⟩
    obtain ⟨u, w', h1, h2⟩ := hr σ w a rel (fun p hp => hx p.2 (by
      simp only [ho, Op.operands, List.mem_toArray, List.mem_map]
      exact ⟨p, hp, rfl⟩))
    exact ⟨u, w', .inl (by simp [execOp, ho, h1]), weakQ h2 fun _ => rfl⟩
  | load t x =>
    simp only [ho] at h
    obtain ⟨r, hK, hr⟩ := aLoad_ok G h
    refine ⟨r, _, hK, some_out fun σ w a hx rel => ?_, nilN⟩
    obtain ⟨u, h1, h2⟩ := hr σ w _ rel (hx x (by simp [ho, Op.operands]))
    exact ⟨u, by simp [execOp, ho, h1], h2⟩
  | store t x y =>
    simp only [ho] at h
    obtain ⟨rfl, h⟩ := h
    obtain ⟨H', hK, hr⟩ := aStore_ok G h
    refine ⟨_, H', hK, OpOk.run fun σ w a hx rel => ?_, fun h => by cases h⟩
    obtain ⟨w', h1, h2⟩ := hr σ w _ _ rel (hx x (by simp [ho, Op.operands])) (hx y (by simp [ho, Op.operands]))
    exact ⟨undef, w', .inr ⟨by simp [execOp, ho, h1], rfl⟩, h2⟩
  | nilCheck x =>
    simp only [ho] at h
    cases hx' : env x <;> simp only [hx'] at h <;> try (exact h.elim)
    · refine ⟨_, _, h, some_out fun σ w a hx rel => ?_, nilN⟩
      have := hx x (by simp [ho, Op.operands])
      rw [hx'] at this
      generalize hu : a.eval x = ux at *
      cases this with
      | ptr hρ => exact ⟨_, by simp [execOp, ho, hu], .ptr hρ⟩
    · refine ⟨_, _, h, some_out fun σ w a hx rel => ?_, nilN⟩
      have := hx x (by simp [ho, Op.operands])
      rw [hx'] at this
      generalize hu : a.eval x = ux at *
      cases this with
      | vptr B o u hr hm ha => exact ⟨_, by simp [execOp, ho, hu], .vptr B o u hr hm ha⟩
    · split at h
      · rename_i e
        cases e
      · rename_i e
        cases e
      · rename_i f cs e
        cases e
        refine ⟨_, _, h, some_out fun σ w a hx rel => ?_, nilN⟩
        have := hx x (by simp [ho, Op.operands])
        rw [hx'] at this
        generalize hu : a.eval x = ux at *
        cases this with
        | fn us hl ha => exact ⟨_, by simp [execOp, ho, hu], .fn us hl ha⟩
      · exact h.elim
  | binOp op t x y ty =>
    simp only [ho] at h
    obtain ⟨r, hK, hr⟩ := aBinO_ok x h
    refine ⟨r, _, hK, some_out fun σ w a hx rel => ?_, nilN⟩
    obtain ⟨u, h1, h2⟩ := hr σ w _ _ (hx x (by simp [ho, Op.operands])) (hx y (by simp [ho, Op.operands]))
    exact ⟨u, by simp only [execOp, ho]; rw [Sem.run_bind, h1]; rfl, h2⟩
  | unOp op t x =>
    simp only [ho] at h
    obtain ⟨r, hK, hr⟩ := aUn_ok (P := P) h
    refine ⟨r, _, hK, some_out fun σ w a hx rel => ?_, nilN⟩
    obtain ⟨u, h1, h2⟩ := hr σ w _ (hx x (by simp [ho, Op.operands]))
    exact ⟨u, by simp [execOp, ho, h1], h2⟩
  | convert s d x =>
    simp only [ho] at h
    obtain ⟨r, H', hK, hN, hr⟩ := aConv_ok G h
    refine ⟨r, H', hK, OpOk.run fun σ w a hx rel => ?_, fun _ => hN⟩
    obtain ⟨u, w', h1, h2⟩ := hr σ w _ rel (hx x (by simp [ho, Op.operands]))
    exact ⟨u, w', .inl (by simp [execOp, ho, h1]), weakQ h2 (fun _ => rfl)⟩
  | sliceToArrayPointer t x =>
    simp only [ho] at h
    obtain ⟨r, hK, hr⟩ := aArr_ok h
    refine ⟨r, _, hK, some_out fun σ w a hx rel => ?_, nilN⟩
    obtain ⟨u, h1, h2⟩ := hr σ w _ (hx x (by simp [ho, Op.operands]))
    exact ⟨u, by simp [execOp, ho, h1], h2⟩
  | makeFunc f first cap =>
    simp only [ho] at h
    obtain ⟨hf, hK⟩ := h
    refine ⟨_, _, hK, some_out fun σ w a hx rel => ⟨.func f #[] (cap.map a.eval), ?_, .fn _ (by simp) (fun j hj => ?_)⟩, nilN⟩
    · have : first = #[] := Array.eq_empty_of_size_eq_zero hf
      simp [execOp, ho, Instr.makeFunc, this]
    · have hj' : j < cap.size := by simpa using hj
      have := hx cap[j] (by simp [ho, Op.operands])
      simpa [List.getD_eq_getElem?_getD, hj'] using this
  | makeInterface t x =>
    simp only [ho] at h
    obtain ⟨hc, hK⟩ := h
    exact ⟨_, _, hK, some_out fun σ w a hx rel => ⟨_, by simp [execOp, ho, run_makeInterface w t (a.eval x) hc], .ifc (hx x (by simp [ho, Op.operands]))⟩, nilN⟩
  | makeSlice t l c =>
    simp only [ho] at h
    obtain ⟨r, H', hK, hN, hr⟩ := aMake_ok G h
    refine ⟨r, H', hK, OpOk.run fun σ w a hx rel => ?_, fun _ => hN⟩
    obtain ⟨u, w', h1, h2⟩ := hr σ w _ _ rel (hx l (by simp [ho, Op.operands])) (hx c (by simp [ho, Op.operands]))
    exact ⟨u, w', .inl (by simp [execOp, ho, h1]), weakQ h2 fun _ => rfl⟩
  | slice t x lo hi mx =>
    simp only [ho] at h
    obtain ⟨r, hK, hr⟩ := aSlice_ok G h
    refine ⟨r, _, hK, some_out fun σ w a hx rel => ?_, nilN⟩
    obtain ⟨u, h1, h2⟩ := hr σ w a rel (hx x (by simp [ho, Op.operands])) (fun y hy => hx y (by simp [ho, Op.operands]; exact .inr (.inl (by simpa using hy)))) (fun y hy => hx y (by simp [ho, Op.operands]; exact .inr (.inr (.inl (by simpa using hy))))) (fun y hy => hx y (by simp [ho, Op.operands]; exact .inr (.inr (.inr (by simpa using hy)))))
    exact ⟨u, by simp [execOp, ho, h1], h2⟩
  | fieldAddr t x f =>
    simp only [ho] at h
    obtain ⟨r, hK, hr⟩ := aFldAddr_ok h
    refine ⟨r, _, hK, some_out fun σ w a hx rel => ?_, nilN⟩
    obtain ⟨u, h1, h2⟩ := hr σ w _ (hx x (by simp [ho, Op.operands]))
    exact ⟨u, by simp [execOp, ho, h1], h2⟩
  | field t x f =>
    simp only [ho] at h
    have hf : ∃ r, K r H ∧ aFld P t (env x) f (· = r) := by
      unfold aFld at h ⊢
      split at h
      · split at h
        · obtain ⟨r, h1, h2⟩ := rdP_fun h
          exact ⟨r, h1, h2⟩
        · exact h.elim
      · exact h.elim
    obtain ⟨r, hK, h⟩ := hf
    refine ⟨r, _, hK, some_out fun σ w a hx rel => ?_, nilN⟩
    obtain ⟨r', u, rfl, h1, h2⟩ := aFld_ok (w := w) h _ (hx x (by simp [ho, Op.operands]))
    exact ⟨u, by simp [execOp, ho, h1], h2⟩
  | indexAddr t x i =>
    simp only [ho] at h
    obtain ⟨r, hK, hr⟩ := aIdxAddr_ok h
    refine ⟨r, _, hK, some_out fun σ w a hx rel => ?_, nilN⟩
    obtain ⟨u, h1, h2⟩ := hr σ w _ _ (hx x (by simp [ho, Op.operands])) (hx i (by simp [ho, Op.operands]))
    exact ⟨u, by simp [execOp, ho, h1], h2⟩
  | index t x i =>
    simp only [ho] at h
    have hf : ∃ r, K r H ∧ aIdx P t (env x) (env i) (· = r) := by
      unfold aIdx at h ⊢
      split at h
      · split at h
        · obtain ⟨h1, h2, h⟩ := h
          obtain ⟨r, h3, h4⟩ := rdP_fun h
          exact ⟨r, h3, h1, h2, h4⟩
        · exact h.elim
      · exact ⟨_, h.2.2, h.1, h.2.1, rfl⟩
      · exact h.elim
    obtain ⟨r, hK, h⟩ := hf
    refine ⟨r, _, hK, some_out fun σ w a hx rel => ?_, nilN⟩
    obtain ⟨r', u, rfl, h1, h2⟩ := aIdx_ok (w := w) h _ _ (hx x (by simp [ho, Op.operands])) (hx i (by simp [ho, Op.operands]))
    exact ⟨u, by simp [execOp, ho, h1], h2⟩
  | extract x i =>
    simp only [ho] at h
    have hf : ∃ r, K r H ∧ aExt (env x) i (· = r) := by
      unfold aExt at h ⊢
      split at h
      · exact ⟨_, h.2, h.1, rfl⟩
      · exact h.elim
    obtain ⟨r, hK, h⟩ := hf
    refine ⟨r, _, hK, some_out fun σ w a hx rel => ?_, nilN⟩
    obtain ⟨r', u, rfl, h1, h2⟩ := aExt_ok (P := P) (w := w) h _ (hx x (by simp [ho, Op.operands]))
    exact ⟨u, by simp [execOp, ho, h1], h2⟩
  | call c =>
    simp only [ho] at h
    obtain ⟨callee, args, argTypes⟩ := c
    cases callee with
    | value f =>
      simp only at h
      cases hf : env f <;> simp only [hf] at h <;> try (exact h.elim)
      rename_i fn caps
      cases fn <;> simp only at h <;> try (exact h.elim)
      rename_i n
      obtain ⟨r, H', hc, hN, hK⟩ := h
      refine ⟨r, H', hK, ?_, hN⟩
      intro σ w a KK Q hx rel hKK
      have h1 := hx f (by simp [ho, Op.operands, Call.operands])
      rw [hf] at h1
      generalize hu : a.eval f = uf at *
      cases h1 with
      | fn us hl ha =>
        have hargs : ∀ j, j < (args.toList.map env ++ caps).length → AR σ w ((args.toList.map env ++ caps).getD j .any) ((args.map a.eval ++ us).getD j undef) := fun j hj => by
          simp only [List.length_append, List.length_map, Array.length_toList] at hj
          by_cases hja : j < args.size
          · have h2 := hx args[j] (by simp [ho, Op.operands, Call.operands])
            simpa [List.getD_eq_getElem?_getD, List.getElem?_append, Array.getElem?_append, hja] using h2
          · have h2 := ha (j - args.size) (by omega)
            simpa [List.getD_eq_getElem?_getD, List.getElem?_append, Array.getElem?_append, hja] using h2
        rcases hc with hc | ⟨hc, rfl⟩
        · obtain ⟨⟨fn, c1, c2, c3⟩, hc⟩ := hc
          have hcalls := hc σ w (args.map a.eval ++ us) (by simp [hl]) hargs rel
          unfold Oper.wp
          have hrun : (execOp a.eval o).run P w = .ok (.enter n (args.map a.eval ++ us)) w := by
            have hb : fn.body.isNone = false := by cases hbb : fn.body <;> simp_all
            simp only [execOp, ho, resolve, hu, Deferred.ofValue, invoke, callFunc, Sem.run_bind, Sem.run_pure, Result.andThen_ok, run_program, c1, c2, hb, Bool.false_eq_true, if_false, Array.empty_append]
          rw [hrun]
          refine hcalls.mono fun e w' he => ?_
          obtain ⟨u, rfl, hres⟩ := he
          exact hKK u w' hres
        · obtain ⟨u, h2, h3⟩ := hc σ w (args.map a.eval ++ us) (by simp [hl]) hargs
          unfold Oper.wp
          have hrun : (execOp a.eval o).run P w = .ok (.value u) w := by
            simp only [execOp, ho, resolve, hu, Deferred.ofValue, invoke, Sem.run_bind, Sem.run_pure, Result.andThen_ok, Array.empty_append]
            exact h2
          rw [hrun]
          exact hKK u w (Res.same rel h3)
    | invoke r m => exact h.elim
    | builtin b =>
      cases b <;> simp only at h <;> try (exact h.elim)
      case append =>
        obtain ⟨args⟩ := args
        obtain ⟨argTypes⟩ := argTypes
        simp only at h
        split at h
        · rename_i s x t u
          cases hd : P.underlying t with
          | none => simp [hd] at h
          | some d =>
            cases d <;> simp only [hd] at h <;> try (exact h.elim)
            rename_i e
            cases hi : P.info? e with
            | none => simp [tzero, hi] at h
            | some i =>
              cases hz : i.zero with
              | none => simp [tzero, hi, hz] at h
              | some z =>
                simp only [tzero, tsz, tby, hi, hz, Option.bind_some, Option.map_some] at h
                obtain ⟨hzs, h⟩ := h
                by_cases hq : q = true
                · subst hq
                  rw [if_pos rfl] at h
                  obtain ⟨hu, h⟩ := h
                  obtain ⟨r, H', hK, hN, hr⟩ := appendQ_ok (ty := o.type) G hd hu hi hz hzs h
                  refine ⟨r, H', hK, OpOk.run fun σ w a hx rel => ?_, fun _ => hN⟩
                  obtain ⟨v, w', h1, h2⟩ := hr σ w _ _ rel (hx s (by simp [ho, Op.operands, Call.operands])) (hx x (by simp [ho, Op.operands, Call.operands]))
                  exact ⟨v, w', .inl (by simp [execOp, ho, resolve, invoke, builtin, h1]), h2⟩
                rw [if_neg hq] at h
                obtain rfl : q = false := by simpa using hq
                have hh : ∃ r H', K r H' ∧ ∀ (σ : Sig) (w : World) (us ux : Value), Rel G σ H w → AR σ w (env s) us → AR σ w (env x) ux → ∃ v w', (Builtin.append_ #[t, u] o.type #[us, ux]).run P w = .ok v w' ∧ Res G false σ H w r H' v w' := by
                  split at h
                  · rename_i hu
                    exact appendZ_ok (ty := o.type) G hd hu hi hz hzs h
                  · obtain ⟨hu, h⟩ := h
                    exact append_ok (ty := o.type) G hd hu hi hz hzs h
                obtain ⟨r, H', hK, hr⟩ := hh
                refine ⟨r, H', hK, OpOk.run fun σ w a hx rel => ?_, fun h => by cases h⟩
                obtain ⟨v, w', h1, h2⟩ := hr σ w _ _ rel (hx s (by simp [ho, Op.operands, Call.operands])) (hx x (by simp [ho, Op.operands, Call.operands]))
                exact ⟨v, w', .inl (by simp [execOp, ho, resolve, invoke, builtin, h1]), h2⟩
        · exact h.elim
      case copy =>
        obtain ⟨args⟩ := args
        obtain ⟨argTypes⟩ := argTypes
        simp only at h
        split at h
        · rename_i d s t u
          obtain ⟨rfl, h⟩ := h
          cases hd : P.underlying t with
          | none => simp [hd] at h
          | some dd =>
            cases dd <;> simp only [hd] at h <;> try (exact h.elim)
            rename_i e
            cases hi : P.info? e with
            | none => simp [tsz, hi] at h
            | some i =>
              simp only [tsz, hi, Option.map_some] at h
              obtain ⟨r, H', hK, hr⟩ := copy_ok (sT := u) (ty := o.type) G hd hi h
              refine ⟨r, H', hK, OpOk.run fun σ w a hx rel => ?_, fun h => by cases h⟩
              obtain ⟨v, w', h1, h2⟩ := hr σ w _ _ rel (hx d (by simp [ho, Op.operands, Call.operands])) (hx s (by simp [ho, Op.operands, Call.operands]))
              exact ⟨v, w', .inl (by simp [execOp, ho, resolve, invoke, builtin, h1]), h2⟩
        · exact h.elim
      case cap =>
        obtain ⟨args⟩ := args
        obtain ⟨argTypes⟩ := argTypes
        simp only at h
        split at h
        · rename_i x t
          obtain ⟨r, hK, hr⟩ := aCap_ok (ts := #[t]) (ty := o.type) rfl h
          refine ⟨r, _, hK, some_out fun σ w a hx rel => ?_, nilN⟩
          obtain ⟨u, h1, h2⟩ := hr σ w _ (hx x (by simp [ho, Op.operands, Call.operands]))
          exact ⟨u, by simp [execOp, ho, resolve, invoke, builtin, h1], h2⟩
        · exact h.elim
      case unsafeSliceData =>
        obtain ⟨args⟩ := args
        simp only at h
        split at h
        · rename_i x
          obtain ⟨r, hK, hr⟩ := aUsd_ok (P := P) h argTypes o.type
          refine ⟨r, _, hK, some_out fun σ w a hx rel => ?_, nilN⟩
          obtain ⟨u, h1, h2⟩ := hr σ w _ (hx x (by simp [ho, Op.operands, Call.operands]))
          exact ⟨u, by simp [execOp, ho, resolve, invoke, builtin, h1], h2⟩
        · exact h.elim
      case unsafeString =>
        obtain ⟨args⟩ := args
        obtain ⟨argTypes⟩ := argTypes
        simp only at h
        split at h
        · rename_i x y t it
          obtain ⟨rfl, h⟩ := h
          obtain ⟨r, H', hK, hr⟩ := aUst_ok (it := it) (ty := o.type) G h
          refine ⟨r, H', hK, OpOk.run fun σ w a hx rel => ?_, fun h => by cases h⟩
          obtain ⟨v, w', h1, h2⟩ := hr σ w _ _ rel (hx x (by simp [ho, Op.operands, Call.operands])) (hx y (by simp [ho, Op.operands, Call.operands]))
          exact ⟨v, w', .inl (by simp [execOp, ho, resolve, invoke, builtin, h1]), h2⟩
        · exact h.elim
      case len =>
        obtain ⟨args⟩ := args
        obtain ⟨argTypes⟩ := argTypes
        simp only at h
        split at h
        · rename_i x t
          obtain ⟨r, hK, hr⟩ := aLen_ok (ts := #[t]) (ty := o.type) rfl h
          refine ⟨r, _, hK, some_out fun σ w a hx rel => ?_, nilN⟩
          obtain ⟨u, h1, h2⟩ := hr σ w _ (hx x (by simp [ho, Op.operands, Call.operands]))
          exact ⟨u, by simp [execOp, ho, resolve, invoke, builtin, h1], h2⟩
        · exact h.elim
      case max =>
        obtain ⟨args⟩ := args
        simp only at h
        split at h
        · rename_i x y
          unfold aMM at h
          split at h
          · rename_i k a k' b e1 e2
            refine ⟨_, _, h, some_out fun σ w ac hx rel => ?_, nilN⟩
            have h1 := hx x (by simp [ho, Op.operands, Call.operands])
            have h2 := hx y (by simp [ho, Op.operands, Call.operands])
            rw [e1] at h1
            rw [e2] at h2
            generalize hux : ac.eval x = ux at *
            generalize huy : ac.eval y = uy at *
            cases h1
            cases h2
            exact ⟨_, by simp only [execOp, ho, resolve, invoke, builtin, Sem.run_bind, Sem.run_pure, Result.andThen_ok, List.map_toArray, List.map_cons, List.map_nil, hux, huy, run_max_int2], .v _⟩
          · exact h.elim
        · exact h.elim
      case min =>
        obtain ⟨args⟩ := args
        simp only at h
        split at h
        · rename_i x y
          unfold aMM at h
          split at h
          · rename_i k a k' b e1 e2
            refine ⟨_, _, h, some_out fun σ w ac hx rel => ?_, nilN⟩
            have h1 := hx x (by simp [ho, Op.operands, Call.operands])
            have h2 := hx y (by simp [ho, Op.operands, Call.operands])
            rw [e1] at h1
            rw [e2] at h2
            generalize hux : ac.eval x = ux at *
            generalize huy : ac.eval y = uy at *
            cases h1
            cases h2
            exact ⟨_, by simp only [execOp, ho, resolve, invoke, builtin, Sem.run_bind, Sem.run_pure, Result.andThen_ok, List.map_toArray, List.map_cons, List.map_nil, hux, huy, run_min_int2], .v _⟩
          · exact h.elim
        · exact h.elim
  | _ => simp only [ho] at h
end Go.Abs
namespace Go.Abs
set_option linter.unusedVariables false
set_option linter.unusedSimpArgs false
variable {P : Program} {G : Glob} {σ : Sig} {H : AHeap} {w : World}
def tput (t : List AV) (d : Option Tmp) (r : AV) : List AV :=
  match d with
  | some d => t.set d r
  | none => t
theorem tput_length (t : List AV) (d : Option Tmp) (r : AV) : (tput t d r).length = t.length := by cases d <;> simp [tput]
structure Sim (G : Glob) (σ : Sig) (t : List AV) (H : AHeap) (a : Act) (w : World) : Prop where
  defers : a.defers = []
  size : a.tmps.size = t.length
  tmps : ∀ j, j < t.length → AR σ w (t.getD j .any) (a.tmps.getD j undef)
  rel : Rel G σ H w
theorem Sim.env {t : List AV} {a : Act} (s : Sim G σ t H a w) (x : Operand) : AR σ w (aenv G t x) (a.eval x) := by
  cases x with
  | tmp i =>
    by_cases h : i < t.length
    · exact s.tmps i h
    · have : aenv G t (.tmp i) = .any := by simp [aenv, List.getD_eq_getElem?_getD, List.getElem?_eq_none (Nat.le_of_not_lt h)]
      rw [this]
      exact .any _
  | const c => exact toAV_ar c
  | global g => exact s.rel.glob g
  | func f => exact .fn #[] rfl (fun j hj => by simp at hj)
theorem put_getD (a : Act) (d : Option Tmp) (u : Value) (j : Nat) (hj : j < a.tmps.size) : (a.put d u).tmps.getD j undef = if d = some j then u else a.tmps.getD j undef := by
  cases d with
  | none => simp [Act.put]
  | some d =>
    simp only [Act.put, Option.some.injEq, Array.getD_eq_getD_getElem?, Array.getElem?_setIfInBounds]
    by_cases h : d = j
    · subst h
      simp [hj]
    · simp [h]
theorem tput_getD (t : List AV) (d : Option Tmp) (r : AV) (j : Nat) (hj : j < t.length) : (tput t d r).getD j .any = if d = some j then r else t.getD j .any := by
  cases d with
  | none => simp [tput]
  | some d =>
    simp only [tput, Option.some.injEq, List.getD_eq_getElem?_getD, List.getElem?_set]
    by_cases h : d = j
    · subst h
      simp [hj]
    · simp [h]
theorem Act.put_size (a : Act) (d : Option Tmp) (u : Value) : (a.put d u).tmps.size = a.tmps.size := by cases d <;> simp [Act.put]
theorem Act.put_def (a : Act) (d : Option Tmp) (u : Value) : (a.put d u).defers = a.defers := by cases d <;> simp [Act.put]
theorem Sim.put {t : List AV} {a : Act} (s : Sim G σ t H a w) {q : Bool} {d : Option Tmp} {r : AV} {H' : AHeap} {u : Value} {w' : World} {σ' : Sig} (h1 : AR σ' w' r u) (h2 : Rel G σ' H' w') (h3 : Ext σ H w σ' H' w') :
    Sim G σ' (tput t d r) H' (a.put d u) w' := by
  refine ⟨(Act.put_def _ _ _).trans s.defers, by rw [Act.put_size, tput_length]; exact s.size, fun j hj => ?_, h2⟩
  rw [tput_length] at hj
  rw [tput_getD _ _ _ _ hj, put_getD _ _ _ _ (by rw [s.size]; exact hj)]
  split
  · exact h1
  · exact (s.tmps j hj).ext s.rel h3
/-- Whether an operation is wanted. -/
def aguard (ops : Array Oper) (t : List AV) (o : Oper) (K1 K2 : Prop) : Prop :=
  match o.guard with
  | none => K1
  | some (g, want) => match (ops[g]?).bind (·.dst) with
    | some d => match t.getD d .any with
      | .v (.bool c) => (c = want → K1) ∧ (c = !want → K2)
      | .v (.tuple _) => K2
      | _ => False
    | none => False
theorem aguard_ok {ops : Array Oper} {t : List AV} {o : Oper} {K1 K2 : Prop} (h : aguard ops t o K1 K2) :
    ∃ wd : Bool, (if wd then K1 else K2) ∧ ∀ (σ : Sig) (w : World) (a : Act), (∀ g want d, o.guard = some (g, want) → (ops[g]?).bind (·.dst) = some d → AR σ w (t.getD d .any) (a.tmps.getD d undef) ∧ (d < a.tmps.size ∨ t.getD d .any = .any)) → Region.wanted o (yielded ops a.tmps) = wd := by
  unfold aguard at h
  cases hg : o.guard with
  | none =>
    simp only [hg] at h
    exact ⟨true, h, fun σ w a _ => by simp [Region.wanted, hg]⟩
  | some gw =>
    obtain ⟨g, want⟩ := gw
    simp only [hg] at h
    cases hd : (ops[g]?).bind (·.dst) with
    | none => simp [hd] at h
    | some d =>
      simp only [hd] at h
      cases hv : t.getD d .any with
      | v y =>
        rw [hv] at h
        cases y with
        | bool c =>
          simp only at h
          refine ⟨c == want, ?_, fun σ w a hx => ?_⟩
          · by_cases hc : c = want
            · simp only [hc, beq_self_eq_true, if_true]
              exact h.1 hc
            · have : (c == want) = false := by simp [hc]
              rw [this]
              exact h.2 (by cases c <;> cases want <;> simp_all)
          · obtain ⟨h1, h2⟩ := hx g want d rfl hd
            rw [hv] at h1 h2
            have hlt : d < a.tmps.size := h2.resolve_right (by simp)
            have h3 : a.tmps[d]? = some (a.tmps.getD d undef) := getD_lt hlt
            generalize a.tmps.getD d undef = u at *
            cases h1
            simp [Region.wanted, hg, yielded, hd, h3]
        | tuple us =>
          simp only at h
          refine ⟨false, by simpa using h, fun σ w a hx => ?_⟩
          obtain ⟨h1, h2⟩ := hx g want d rfl hd
          rw [hv] at h1 h2
          have hlt : d < a.tmps.size := h2.resolve_right (by simp)
          have h3 : a.tmps[d]? = some (a.tmps.getD d undef) := getD_lt hlt
          generalize a.tmps.getD d undef = u at *
          cases h1
          simp [Region.wanted, hg, yielded, hd, h3]
        | _ => exact h.elim
      | _ => rw [hv] at h; exact h.elim
/-- Operations, one behind the other. -/
def aops (P : Program) (G : Glob) (q : Bool) (ops : Array Oper) : List Oper → List AV → AHeap → (List AV → AHeap → Prop) → Prop
  | [], t, H, K => K t H
  | o :: rest, t, H, K => aguard ops t o (aop P G q (nxOf rest) (aenv G t) H o fun r H' => aops P G q ops rest (tput t o.dst r) H' K) (aops P G q ops rest (tput t o.dst (.v undef)) H K)
theorem sim_guard {t : List AV} {a : Act} (s : Sim G σ t H a w) (d : Tmp) : AR σ w (t.getD d .any) (a.tmps.getD d undef) ∧ (d < a.tmps.size ∨ t.getD d .any = .any) := by
  by_cases h : d < t.length
  · exact ⟨s.tmps d h, .inl (by rw [s.size]; exact h)⟩
  · have : t.getD d .any = .any := by simp [List.getD_eq_getElem?_getD, List.getElem?_eq_none (Nat.le_of_not_lt h)]
    rw [this]
    exact ⟨.any _, .inr rfl⟩
theorem aops_list {ops : Array Oper} {Q : Exit → Act → World → Prop} : ∀ {l : List Oper} {t : List AV} {H : AHeap} {K : List AV → AHeap → Prop}, aops P G false ops l t H K → ∀ (σ : Sig) (a : Act) (w : World), Sim G σ t H a w →
    (∀ t' H' σ' a' w', K t' H' → Sim G σ' t' H' a' w' → Ext σ H w σ' H' w' → Q .normal a' w') → wpList P ops Q l a w
  | [], t, H, K, h, σ, a, w, s, hQ => hQ _ _ _ _ _ h s (Ext.refl _ _ _)
  | o :: rest, t, H, K, h, σ, a, w, s, hQ => by
    obtain ⟨wd, h, hw⟩ := aguard_ok h
    refine wpList_step fun KK hKK => ?_
    rw [hw σ w a (fun g want d _ _ => sim_guard s d)]
    cases wd with
    | true =>
      simp only [if_true] at h ⊢
      obtain ⟨r, H', hK, hop, _⟩ := aop_ok h
      refine hop σ w a KK Q (fun x _ => s.env x) s.rel fun u w' ⟨σ', a1, a2, a3, _⟩ => hKK _ _ ?_
      exact aops_list hK σ' _ w' (s.put (q := false) a1 a2 a3) fun t' H'' σ'' a' w'' k1 k2 k3 => hQ _ _ _ _ _ k1 k2 (a3.trans k3)
    | false =>
      simp only [Bool.false_eq_true, if_false] at h ⊢
      refine hKK _ _ (aops_list h σ _ w (s.put (q := false) (.v _) s.rel (Ext.refl _ _ _)) hQ)
end Go.Abs
namespace Go.Abs
set_option linter.unusedVariables false
set_option linter.unusedSimpArgs false
variable {P : Program} {G : Glob} {σ : Sig} {H : AHeap} {w : World}
/-! ### What comes ahead of what -/
def mask (o : Oper) (acc : List Nat) : Nat := o.after.toList.foldl (fun s e => if Region.binds .any e then s ||| (2 ^ e.on ||| acc.getD e.on 0) else s) 0
def befL : List Oper → List Nat → List Nat
  | [], acc => acc
  | o :: rest, acc => befL rest (acc ++ [mask o acc])
def befs (ops : Array Oper) (k : Nat) : Nat := (befL ops.toList []).getD k 0
theorem mask_bit (acc : List Nat) (j : Nat) : ∀ (l : List Edge) (s : Nat), (l.foldl (fun s e => if Region.binds .any e then s ||| (2 ^ e.on ||| acc.getD e.on 0) else s) s).testBit j = true →
    s.testBit j = true ∨ ∃ e ∈ l, Region.binds .any e = true ∧ (e.on = j ∨ (acc.getD e.on 0).testBit j = true)
  | [], s, h => .inl h
  | e :: l, s, h => by
    rw [List.foldl_cons] at h
    rcases mask_bit acc j l _ h with h1 | ⟨e', h1, h2⟩
    · split at h1
      · rename_i hb
        rw [Nat.testBit_or, Nat.testBit_or, Bool.or_eq_true, Bool.or_eq_true] at h1
        rcases h1 with h1 | h1 | h1
        · exact .inl h1
        · refine .inr ⟨e, by simp, hb, .inl ?_⟩
          rw [Nat.testBit_two_pow] at h1
          simpa using h1
        · exact .inr ⟨e, by simp, hb, .inr h1⟩
      · exact .inl h1
    · exact .inr ⟨e', by simp [h1], h2⟩
theorem befL_old : ∀ (l : List Oper) (acc : List Nat) (k : Nat), k < acc.length → (befL l acc).getD k 0 = acc.getD k 0
  | [], acc, k, h => rfl
  | o :: rest, acc, k, h => by
    unfold befL
    rw [befL_old rest _ k (by simp; omega), List.getD_eq_getElem?_getD, List.getD_eq_getElem?_getD, List.getElem?_append_left h]
theorem befL_new : ∀ (l : List Oper) (acc : List Nat) (k : Nat) (o : Oper), l[k]? = some o → ∃ acc' : List Nat, (∀ i, i < acc.length + k → acc'.getD i 0 = (befL l acc).getD i 0) ∧ (befL l acc).getD (acc.length + k) 0 = mask o acc'
  | [], acc, k, o, h => by simp at h
  | o' :: rest, acc, 0, o, h => by
    simp at h
    subst h
    refine ⟨acc, fun i hi => ?_, ?_⟩
    · unfold befL
      rw [befL_old rest _ i (by simp; omega), List.getD_eq_getElem?_getD, List.getD_eq_getElem?_getD, List.getElem?_append_left (by omega)]
    · unfold befL
      rw [befL_old rest _ _ (by simp)]
      simp
  | o' :: rest, acc, k + 1, o, h => by
    obtain ⟨acc', h1, h2⟩ := befL_new rest (acc ++ [mask o' acc]) k o (by simpa using h)
    simp only [List.length_append, List.length_singleton] at h1 h2
    refine ⟨acc', fun i hi => ?_, ?_⟩
    · unfold befL
      exact h1 i (by omega)
    · unfold befL
      rw [show acc.length + (k + 1) = acc.length + 1 + k from by omega]
      exact h2
theorem befs_bit {ops : Array Oper} {i j : Nat} {o : Oper} (ho : ops[i]? = some o) (hlow : ∀ e ∈ o.after, Region.binds .any e = true → e.on < i) (h : (befs ops i).testBit j = true) :
    ∃ e ∈ o.after, Region.binds .any e = true ∧ (e.on = j ∨ (befs ops e.on).testBit j = true) := by
  obtain ⟨acc', h1, h2⟩ := befL_new ops.toList [] i o (by simpa using ho)
  simp only [List.length_nil, Nat.zero_add] at h1 h2
  unfold befs at h
  rw [h2] at h
  rcases mask_bit acc' j _ _ h with h3 | ⟨e, h3, h4, h5⟩
  · simp at h3
  · refine ⟨e, by simpa using h3, h4, h5.imp id fun h6 => ?_⟩
    have := h1 e.on (hlow e (by simpa using h3) h4)
    rw [this] at h6
    exact h6
def readsOf (ops : Array Oper) (o : Oper) : List Tmp :=
  (o.op.operands.toList.filterMap fun x => match x with | .tmp t => some t | _ => none) ++ (match o.guard with | some (g, _) => ((ops[g]?).bind (·.dst)).toList | none => [])
structure Ord (ops : Array Oper) (m : Nat) (L : Nat → Bool) : Prop where
  low : ∀ i o, ops[i]? = some o → ∀ e ∈ o.after, Region.binds .any e = true → e.on < i
  dst : ∀ i j oi oj d, i < m → j < m → i ≠ j → ops[i]? = some oi → ops[j]? = some oj → oj.dst = some d → oi.dst ≠ some d
  rd : ∀ i j oi oj d, i < m → j < m → i ≠ j → ops[i]? = some oi → ops[j]? = some oj → oj.dst = some d → d ∈ readsOf ops oi → (j < i ∧ (befs ops i).testBit j = true) ∨ (i < j ∧ (befs ops j).testBit i = true)
  tail : ∀ k, m ≤ k → k < ops.size → L k = false → ∀ j, j < k → L j = false → (befs ops k).testBit j = true
  le : m ≤ ops.size
  lge : ∀ l ol, L l = true → ops[l]? = some ol → m ≤ l ∧ ol.guard = none
  lwr : ∀ l ol d i oi, L l = true → ops[l]? = some ol → ol.dst = some d → i ≠ l → ops[i]? = some oi → oi.dst ≠ some d ∧ (d ∈ readsOf ops oi → (befs ops i).testBit l = true)
  lrd : ∀ l ol s i oi, L l = true → ops[l]? = some ol → s ∈ readsOf ops ol → ops[i]? = some oi → oi.dst = some s → L i = true ∧ (befs ops l).testBit i = true
def ordB (ops : Array Oper) (m : Nat) : Bool :=
  let bs := befL ops.toList []
  let ix := (List.range ops.size).zip (ops.toList.zip bs)
  let pre := (ix.take m).map fun (i, o, b) => (i, o.dst, readsOf ops o, b)
  ix.all (fun (i, o, b) => o.after.toList.all (fun e => !Region.binds .any e || decide (e.on < i)) && (decide (i < m) || (List.range i).all fun j => b.testBit j)) &&
  pre.all (fun (i, di, ri, bi) => pre.all fun (j, dj, _, bj) => i == j || match dj with
    | none => true
    | some d => di != some d && (!ri.contains d || (if j < i then bi.testBit j else bj.testBit i))) && decide (m ≤ ops.size)
theorem befL_length : ∀ (l : List Oper) (acc : List Nat), (befL l acc).length = acc.length + l.length
  | [], acc => rfl
  | o :: rest, acc => by
    unfold befL
    rw [befL_length rest]
    simp
    omega
theorem Ord.of {ops : Array Oper} {m : Nat} (h : ordB ops m = true) : Ord ops m (fun _ => false) := by
  simp only [ordB, Bool.and_eq_true, decide_eq_true_eq] at h
  obtain ⟨⟨h1, h2⟩, h3⟩ := h
  rw [List.all_eq_true] at h1 h2
  have hix : ∀ i o, ops[i]? = some o → (i, o, befs ops i) ∈ (List.range ops.size).zip (ops.toList.zip (befL ops.toList [])) := by
    intro i o ho
    obtain ⟨hlt, rfl⟩ := Array.getElem?_eq_some_iff.1 ho
    refine List.mem_iff_getElem?.2 ⟨i, ?_⟩
    rw [List.getElem?_zip_eq_some]
    refine ⟨by simp [hlt], ?_⟩
    rw [List.getElem?_zip_eq_some]
    refine ⟨by simp [hlt], ?_⟩
    have hl : i < (befL ops.toList []).length := by rw [befL_length]; simpa using hlt
    simp [befs, hl]
  have hpre : ∀ i o, i < m → ops[i]? = some o → (i, o.dst, readsOf ops o, befs ops i) ∈ (((List.range ops.size).zip (ops.toList.zip (befL ops.toList []))).take m).map fun (x : Nat × Oper × Nat) => (x.1, x.2.1.dst, readsOf ops x.2.1, x.2.2) := by
    intro i o hi ho
    refine List.mem_map.2 ⟨(i, o, befs ops i), ?_, rfl⟩
    obtain ⟨hlt, rfl⟩ := Array.getElem?_eq_some_iff.1 ho
    refine List.mem_iff_getElem?.2 ⟨i, ?_⟩
    rw [List.getElem?_take, if_pos hi, List.getElem?_zip_eq_some]
    refine ⟨by simp [hlt], ?_⟩
    rw [List.getElem?_zip_eq_some]
    refine ⟨by simp [hlt], ?_⟩
    have hl : i < (befL ops.toList []).length := by rw [befL_length]; simpa using hlt
    simp [befs, hl]
  have hp : ∀ i j oi oj d, i < m → j < m → i ≠ j → ops[i]? = some oi → ops[j]? = some oj → oj.dst = some d → oi.dst ≠ some d ∧ (d ∈ readsOf ops oi → (j < i ∧ (befs ops i).testBit j = true) ∨ (i < j ∧ (befs ops j).testBit i = true)) := by
    intro i j oi oj d hi hj hne hoi hoj hd
    have h4 := h2 _ (hpre i oi hi hoi)
    simp only [List.all_eq_true] at h4
    have h5 := h4 _ (hpre j oj hj hoj)
    simp only [hd, Bool.or_eq_true, beq_iff_eq, hne, false_or, Bool.and_eq_true, bne_iff_ne, ne_eq, Bool.not_eq_true', List.contains_eq_mem, decide_eq_false_iff_not] at h5
    refine ⟨h5.1, fun hr => ?_⟩
    rcases h5.2 with h6 | h6
    · exact absurd hr h6
    · by_cases hji : j < i
      · rw [if_pos hji] at h6
        exact .inl ⟨hji, h6⟩
      · rw [if_neg hji] at h6
        exact .inr ⟨by omega, h6⟩
  refine ⟨fun i o ho e he hb => ?_, fun i j oi oj d a b c e f g => (hp i j oi oj d a b c e f g).1, fun i j oi oj d a b c e f g => (hp i j oi oj d a b c e f g).2, fun k hk hlt _ j hj _ => ?_, h3, fun l _ e => (by cases e), fun l _ _ _ _ e => (by cases e), fun l _ _ _ _ e => (by cases e)⟩
  · have := h1 _ (hix i o ho)
    simp only [Bool.and_eq_true, List.all_eq_true, Bool.or_eq_true, Bool.not_eq_true', decide_eq_true_eq] at this
    rcases this.1 e (by simpa using he) with h | h
    · rw [hb] at h
      cases h
    · exact h
  · have := h1 _ (hix k _ (Array.getElem?_eq_getElem hlt))
    simp only [Bool.and_eq_true, List.all_eq_true, Bool.or_eq_true, decide_eq_true_eq, List.mem_range] at this
    rcases this.2 with h | h
    · omega
    · exact h j hj
/-- The late ones: behind a loud one, with no order to it. -/
def lateOf (ops : Array Oper) (m : Nat) : List Nat :=
  let bs := befL ops.toList []
  ((List.range ops.size).zip bs).filterMap fun (k, b) => if decide (m ≤ k) && !(List.range k).all (fun j => b.testBit j) then some k else none
def ordLB (ops : Array Oper) (m : Nat) (L : List Nat) : Bool :=
  let bs := befL ops.toList []
  let ix := (List.range ops.size).zip (ops.toList.zip bs)
  ix.all (fun (i, o, b) => o.after.toList.all (fun e => !Region.binds .any e || decide (e.on < i)) && (decide (i < m) || L.contains i || (List.range i).all fun j => L.contains j || b.testBit j)) &&
  (ix.take m).all (fun (i, oi, bi) => (ix.take m).all fun (j, oj, bj) => i == j || match oj.dst with
    | none => true
    | some d => oi.dst != some d && (!(readsOf ops oi).contains d || (if j < i then bi.testBit j else bj.testBit i))) && decide (m ≤ ops.size) &&
  ix.all (fun (l, ol, bl) => !L.contains l || (decide (m ≤ l) && ol.guard.isNone && ix.all fun (i, oi, bi) =>
    (i == l || match ol.dst with
      | none => true
      | some d => oi.dst != some d && (!(readsOf ops oi).contains d || bi.testBit l)) &&
    match oi.dst with
      | none => true
      | some s => !(readsOf ops ol).contains s || (L.contains i && bl.testBit i)))
theorem Ord.ofL {ops : Array Oper} {m : Nat} {L : List Nat} (h : ordLB ops m L = true) : Ord ops m (fun k => L.contains k) := by
  simp only [ordLB, Bool.and_eq_true, decide_eq_true_eq] at h
  obtain ⟨⟨⟨h1, h2⟩, h3⟩, h4⟩ := h
  rw [List.all_eq_true] at h1 h2 h4
  have hix : ∀ i o, ops[i]? = some o → (i, o, befs ops i) ∈ (List.range ops.size).zip (ops.toList.zip (befL ops.toList [])) := by
    intro i o ho
    obtain ⟨hlt, rfl⟩ := Array.getElem?_eq_some_iff.1 ho
    refine List.mem_iff_getElem?.2 ⟨i, ?_⟩
    rw [List.getElem?_zip_eq_some]
    refine ⟨by simp [hlt], ?_⟩
    rw [List.getElem?_zip_eq_some]
    refine ⟨by simp [hlt], ?_⟩
    have hl : i < (befL ops.toList []).length := by rw [befL_length]; simpa using hlt
    simp [befs, hl]
  have hpre : ∀ i o, i < m → ops[i]? = some o → (i, o, befs ops i) ∈ ((List.range ops.size).zip (ops.toList.zip (befL ops.toList []))).take m := by
    intro i o hi ho
    obtain ⟨hlt, rfl⟩ := Array.getElem?_eq_some_iff.1 ho
    refine List.mem_iff_getElem?.2 ⟨i, ?_⟩
    rw [List.getElem?_take, if_pos hi, List.getElem?_zip_eq_some]
    refine ⟨by simp [hlt], ?_⟩
    rw [List.getElem?_zip_eq_some]
    refine ⟨by simp [hlt], ?_⟩
    have hl : i < (befL ops.toList []).length := by rw [befL_length]; simpa using hlt
    simp [befs, hl]
  have hp : ∀ i j oi oj d, i < m → j < m → i ≠ j → ops[i]? = some oi → ops[j]? = some oj → oj.dst = some d → oi.dst ≠ some d ∧ (d ∈ readsOf ops oi → (j < i ∧ (befs ops i).testBit j = true) ∨ (i < j ∧ (befs ops j).testBit i = true)) := by
    intro i j oi oj d hi hj hne hoi hoj hd
    have h5 := h2 _ (hpre i oi hi hoi)
    rw [List.all_eq_true] at h5
    have h6 := h5 _ (hpre j oj hj hoj)
    simp only [hd, Bool.or_eq_true, beq_iff_eq, hne, false_or, Bool.and_eq_true, bne_iff_ne, ne_eq, Bool.not_eq_true', List.contains_eq_mem, decide_eq_false_iff_not] at h6
    refine ⟨h6.1, fun hr => ?_⟩
    rcases h6.2 with h7 | h7
    · exact absurd hr h7
    · by_cases hji : j < i
      · rw [if_pos hji] at h7
        exact .inl ⟨hji, h7⟩
      · rw [if_neg hji] at h7
        exact .inr ⟨by omega, h7⟩
  have hl : ∀ l ol, L.contains l = true → ops[l]? = some ol → m ≤ l ∧ ol.guard.isNone = true ∧ ∀ i oi, ops[i]? = some oi →
      ((i == l || match ol.dst with
        | none => true
        | some d => oi.dst != some d && (!(readsOf ops oi).contains d || (befs ops i).testBit l)) = true) ∧
      (match oi.dst with
        | none => true
        | some s => !(readsOf ops ol).contains s || (L.contains i && (befs ops l).testBit i)) = true := by
    intro l ol hL ho
    have h5 := h4 _ (hix l ol ho)
    simp only [hL, Bool.not_true, Bool.false_or, Bool.and_eq_true, decide_eq_true_eq] at h5
    obtain ⟨⟨h6, h7⟩, h8⟩ := h5
    refine ⟨h6, h7, fun i oi hoi => ?_⟩
    rw [List.all_eq_true] at h8
    have h9 := h8 _ (hix i oi hoi)
    rw [Bool.and_eq_true] at h9
    exact h9
  refine ⟨fun i o ho e he hb => ?_, fun i j oi oj d a b c e f g => (hp i j oi oj d a b c e f g).1, fun i j oi oj d a b c e f g => (hp i j oi oj d a b c e f g).2, fun k hk hlt hLk j hj hLj => ?_, h3, fun l ol hL ho => ?_, fun l ol d i oi hL ho hd hne hoi => ?_, fun l ol s i oi hL ho hs hoi hd => ?_⟩
  · have := h1 _ (hix i o ho)
    simp only [Bool.and_eq_true, List.all_eq_true, Bool.or_eq_true, Bool.not_eq_true', decide_eq_true_eq] at this
    rcases this.1 e (by simpa using he) with h | h
    · rw [hb] at h
      cases h
    · exact h
  · have := h1 _ (hix k _ (Array.getElem?_eq_getElem hlt))
    rw [Bool.and_eq_true] at this
    have h5 := this.2
    rw [Bool.or_eq_true, Bool.or_eq_true, decide_eq_true_eq, List.all_eq_true] at h5
    rcases h5 with (h | h) | h
    · omega
    · rw [hLk] at h
      cases h
    · have h6 := h j (by simpa using hj)
      rw [hLj, Bool.false_or] at h6
      exact h6
  · obtain ⟨h5, h6, _⟩ := hl l ol hL ho
    exact ⟨h5, by simpa using h6⟩
  · obtain ⟨_, _, h5⟩ := hl l ol hL ho
    have h6 := (h5 i oi hoi).1
    simp only [hd, Bool.or_eq_true, beq_iff_eq, hne, false_or, Bool.and_eq_true, bne_iff_ne, ne_eq, Bool.not_eq_true', List.contains_eq_mem, decide_eq_false_iff_not] at h6
    refine ⟨h6.1, fun hr => ?_⟩
    rcases h6.2 with h7 | h7
    · exact absurd hr h7
    · exact h7
  · obtain ⟨_, _, h5⟩ := hl l ol hL ho
    have h6 := (h5 i oi hoi).2
    simp only [hd, Bool.or_eq_true, Bool.not_eq_true', List.contains_eq_mem, decide_eq_false_iff_not, Bool.and_eq_true, decide_eq_true_eq] at h6
    rcases h6 with h7 | h7
    · exact absurd hs h7
    · exact ⟨by simpa using h7.1, h7.2⟩
/-! ### A run in the order of the text -/
def StepAt (P : Program) (G : Glob) (ops : Array Oper) (o : Oper) (t t' : List AV) (H H' : AHeap) (v : AV) : Prop :=
  t' = tput t o.dst v ∧ (∃ N, H' = H ++ N) ∧ ∃ wd : Bool, (∀ (σ : Sig) (w : World) (a : Act), (∀ g want d, o.guard = some (g, want) → (ops[g]?).bind (·.dst) = some d → AR σ w (t.getD d .any) (a.tmps.getD d undef) ∧ (d < a.tmps.size ∨ t.getD d .any = .any)) → Region.wanted o (yielded ops a.tmps) = wd) ∧
    if wd then OpOk P G true o (aenv G t) H v H' else v = .v undef ∧ H' = H
theorem aops_run {ops : Array Oper} : ∀ {l : List Oper} {t : List AV} {H : AHeap} {K : List AV → AHeap → Prop}, aops P G true ops l t H K →
    ∃ (T : Nat → List AV) (Hh : Nat → AHeap) (V : Nat → AV), T 0 = t ∧ Hh 0 = H ∧ K (T l.length) (Hh l.length) ∧ ∀ k o, l[k]? = some o → StepAt P G ops o (T k) (T (k + 1)) (Hh k) (Hh (k + 1)) (V k)
  | [], t, H, K, h => ⟨fun _ => t, fun _ => H, fun _ => .any, rfl, rfl, h, fun k o hk => by simp at hk⟩
  | o :: rest, t, H, K, h => by
    obtain ⟨wd, h, hw⟩ := aguard_ok h
    have fin : ∀ (v : AV) (H' : AHeap), aops P G true ops rest (tput t o.dst v) H' K → StepAt P G ops o t (tput t o.dst v) H H' v →
        ∃ (T : Nat → List AV) (Hh : Nat → AHeap) (V : Nat → AV), T 0 = t ∧ Hh 0 = H ∧ K (T (o :: rest).length) (Hh (o :: rest).length) ∧ ∀ k o', (o :: rest)[k]? = some o' → StepAt P G ops o' (T k) (T (k + 1)) (Hh k) (Hh (k + 1)) (V k) := by
      intro v H' h hs
      obtain ⟨T, Hh, V, h1, h2, h3, h4⟩ := aops_run h
      refine ⟨fun k => match k with | 0 => t | k + 1 => T k, fun k => match k with | 0 => H | k + 1 => Hh k, fun k => match k with | 0 => v | k + 1 => V k, rfl, rfl, h3, fun k o' hk => ?_⟩
      cases k with
      | zero =>
        simp at hk
        subst hk
        show StepAt P G ops o t (T 0) H (Hh 0) v
        rw [h1, h2]
        exact hs
      | succ k => exact h4 k o' (by simpa using hk)
    cases wd with
    | true =>
      simp only [if_true] at h
      obtain ⟨r, H', hK, hop, hN⟩ := aop_ok h
      exact fin r H' hK ⟨rfl, hN rfl, true, hw, hop⟩
    | false =>
      simp only [Bool.false_eq_true, if_false] at h
      exact fin _ H h ⟨rfl, ⟨[], by simp⟩, false, hw, rfl, rfl⟩
end Go.Abs
