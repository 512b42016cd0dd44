/- append, copy. -/
import Derived.Test.YtgmchiadphdlhaaDoorAbsStep
namespace Go.Abs
set_option linter.unusedVariables false
set_option linter.unusedSimpArgs false
variable {P : Program} {G : Glob} {σ : Sig} {H : AHeap} {w : World}
def Row (P : Program) (u : TypeId) : Prop := (∃ e, P.underlying u = some (.slice e)) ∨ P.underlying u = some .string
set_option maxHeartbeats 1000000 in
theorem run_append_far (t u ty e : TypeId) (i : TypeInfo) (z : Value) (ht : P.underlying t = some (.slice e)) (hu : Row P u) (hi : P.info? e = some i) (hz : i.zero = some z)
    (base : Option Addr) (sLen sCap n : Nat) (x : Value) (olds news : Array Value) (hx : (Builtin.lenOf x).run P w = .ok n w) (holds : ∀ w' : World, w'.heap = w.heap → (Builtin.firstCells i.size sLen (.slice base sLen sCap)).run P w' = .ok olds w')
    (hnews : ∀ w' : World, w'.heap = w.heap → (Builtin.firstCells i.size n x).run P w' = .ok news w') (hg : sCap < sLen + n) (h63 : ((sLen + n : Nat) : Int) ≤ 9223372036854775807) (hfit : (sLen + n) * i.bytes ≤ 140737488355328) :
    (Builtin.append_ #[t, u] ty #[.slice base sLen sCap, x]).run P w =
      .ok (.slice (some ⟨w.heap.size, 0, none⟩) (sLen + n) (grownCap w (sLen + n) sCap e)) (w.drew.alloc (.cells (olds ++ news ++ Builtin.zeroCells z.cells (grownCap w (sLen + n) sCap e - (sLen + n))) e)) := by
  have hn : ¬ (sLen + n ≤ sCap) := by omega
  have h63' : ¬ (9223372036854775807 < ((sLen : Int) + (n : Int))) := by omega
  have hf := growslice_fits hg hfit
  have h48' : ¬ (281474976710656 < Builtin.nextslicecap (sLen + n) sCap * i.bytes) := by omega
  have a1 := holds w.drew rfl
  have a2 := hnews w.drew rfl
  rcases hu with ⟨e', hd⟩ | hd
  all_goals simp [Builtin.append_, run_underlying ht, run_underlying hd, sizeOf, typeInfo, zeroValue, hi, hz, hx, hn, h63', h48', Question.forced, newRow, grownCap, a1, a2]
set_option maxHeartbeats 1000000 in
theorem run_append_near (t u ty e : TypeId) (i : TypeInfo) (ht : P.underlying t = some (.slice e)) (hu : Row P u) (hi : P.info? e = some i)
    (a : Addr) (sLen sCap n : Nat) (x : Value) (news : Array Value) (hx : (Builtin.lenOf x).run P w = .ok n w) (hnews : (Builtin.firstCells i.size n x).run P w = .ok news w) (hg : sLen + n ≤ sCap)
    (w' : World) (hst : (storeCells (a.add (sLen * i.size)) news.toList).run P w = .ok () w') :
    (Builtin.append_ #[t, u] ty #[.slice (some a) sLen sCap, x]).run P w = .ok (.slice (some a) (sLen + n) sCap) w' := by
  rcases hu with ⟨e', hd⟩ | hd
  all_goals simp [Builtin.append_, run_underlying ht, run_underlying hd, sizeOf, typeInfo, hi, hx, hg, hnews, hst]
set_option maxHeartbeats 1000000 in
theorem run_append_none (t u ty e : TypeId) (i : TypeInfo) (ht : P.underlying t = some (.slice e)) (hu : Row P u) (hi : P.info? e = some i)
    (x : Value) (news : Array Value) (sLen sCap : Nat) (hx : (Builtin.lenOf x).run P w = .ok 0 w) (hnews : (Builtin.firstCells i.size 0 x).run P w = .ok news w) (hg : sLen ≤ sCap) :
    (Builtin.append_ #[t, u] ty #[.slice none sLen sCap, x]).run P w = .ok (.slice none sLen sCap) w := by
  rcases hu with ⟨e', hd⟩ | hd
  all_goals simp [Builtin.append_, run_underlying ht, run_underlying hd, sizeOf, typeInfo, hi, hx, hnews, hg]
/-- What a slice, or a text, holds: how many, their cells. -/
def acont (H : AHeap) (sz : Nat) (x : AV) (K : Nat → List AV → Prop) : Prop :=
  match x with
  | .v (.slice none 0 0) => K 0 []
  | .v (.string s) => sz = 1 ∧ K s.size (s.data.toList.map fun b => .v (.int .u8 b.toNat))
  | .vsl len cs _ => cs.length = len * sz ∧ K len cs
  | .sl b ver off len _ sz' _ => sz' = sz ∧ match H[b]? with
    | some k => k.live = true ∧ k.ver = ver ∧ off + len * sz ≤ k.cells.length ∧ K len ((k.cells.drop off).take (len * sz))
    | none => False
  | _ => False
theorem run_cells_mem {B o : Nat} {cs : List AV} (h : Mem σ w B o cs) (off n : Nat) (hn : off + n ≤ cs.length) :
    ∃ us : Array Value, us.size = n ∧ (∀ j, j < n → AR σ w (cs.getD (off + j) .any) (us.getD j undef)) ∧ ∀ w' : World, w'.heap = w.heap → (loadCells ⟨B, o + off, none⟩ n).run P w' = .ok us w' := by
  obtain ⟨us, h1, h2, h3⟩ := run_loadCells_mem (P := P) h off n hn
  have hch : ∀ j, j < n → ∃ u, w.cell? ⟨B, o + off + j, none⟩ = some u ∧ AR σ w (cs.getD (off + j) .any) u := fun j hj => by
    obtain ⟨u, h1, h2⟩ := h (off + j) (by omega)
    exact ⟨u, by rw [Nat.add_assoc]; exact h1, h2⟩
  refine ⟨us, h2, h3, fun w' hw => ?_⟩
  have key : ∀ w' : World, w'.heap = w.heap → (loadCells ⟨B, o + off, none⟩ n).run P w' = .ok ((List.range n).map fun j => (w.cell? ⟨B, o + off + j, none⟩).getD undef).toArray w' := by
    intro w' hw
    have hc : ∀ a, w'.cell? a = w.cell? a := fun a => World.cell?_of_block (by rw [hw])
    have := run_loadCells_list (P := P) w' ⟨B, o + off, none⟩ ((List.range n).map fun j => (w.cell? ⟨B, o + off + j, none⟩).getD undef) (fun j v hv => by
      obtain ⟨hj, rfl⟩ := List.getElem?_eq_some_iff.1 hv
      simp only [List.length_map, List.length_range] at hj
      obtain ⟨u, h1, _⟩ := hch j hj
      rw [Addr.add_lit, hc]
      simp [h1])
    simpa using this
  have e1 := key w rfl
  rw [h1] at e1
  cases e1
  exact key w' hw
theorem ar_take {cs : List AV} {off n : Nat} {us : Array Value} (h : off + n ≤ cs.length) (ha : ∀ j, j < n → AR σ w (cs.getD (off + j) .any) (us.getD j undef)) : ∀ j, j < ((cs.drop off).take n).length → AR σ w (((cs.drop off).take n).getD j .any) (us.getD j undef) := by
  intro j hj
  rw [List.length_take, List.length_drop] at hj
  have := ha j (by omega)
  rwa [List.getD_eq_getElem?_getD, List.getElem?_take, if_pos (by omega), List.getElem?_drop, ← List.getD_eq_getElem?_getD]
theorem acont_ok (G : Glob) {sz : Nat} {x : AV} {K : Nat → List AV → Prop} (hc : acont H sz x K) :
    ∃ n cs, K n cs ∧ cs.length = n * sz ∧ ∀ (σ : Sig) (w : World) (u : Value), Rel G σ H w → AR σ w x u → ∃ us : Array Value, us.size = n * sz ∧ (∀ j, j < n * sz → AR σ w (cs.getD j .any) (us.getD j undef)) ∧
      (∀ w' : World, (Builtin.lenOf u).run P w' = .ok n w') ∧ ∀ w' : World, w'.heap = w.heap → (Builtin.firstCells sz n u).run P w' = .ok us w' := by
  cases x with
  | v y =>
    unfold acont at hc
    split at hc
    · rename_i e
      cases e
      refine ⟨0, [], hc, by simp, fun σ w u r h => ?_⟩
      cases h
      exact ⟨#[], by simp, fun j hj => by simp at hj, fun w' => rfl, fun w' _ => by simp [Builtin.firstCells]⟩
    · rename_i s e
      cases e
      obtain ⟨rfl, hK⟩ := hc
      refine ⟨s.size, _, hK, by rw [List.length_map, Array.length_toList, Nat.mul_one]; rfl, fun σ w u r h => ?_⟩
      cases h
      refine ⟨s.data.map fun b => .int .u8 b.toNat, by rw [Array.size_map, Nat.mul_one]; rfl, fun j hj => ?_, fun w' => rfl, fun w' _ => ?_⟩
      · have hj' : j < s.data.size := by rw [Nat.mul_one] at hj; exact hj
        simp only [List.getD_eq_getElem?_getD, List.getElem?_map, Array.getElem?_toList, Array.getD_eq_getD_getElem?, Array.getElem?_map, Array.getElem?_eq_getElem hj', Option.map_some, Option.getD_some]
        exact .v _
      · have : s.extract 0 s.size = s := by simp
        simp [Builtin.firstCells, this]
    · rename_i e
      cases e
    · rename_i e
      cases e
    · exact hc.elim
  | sl b ver off len cap sz' x =>
    obtain ⟨rfl, hc⟩ := hc
    cases hk : H[b]? with
    | none => simp [hk] at hc
    | some k =>
      simp only [hk] at hc
      obtain ⟨c1, rfl, c3, hK⟩ := hc
      refine ⟨len, _, hK, by rw [List.length_take, List.length_drop]; omega, fun σ w u r h => ?_⟩
      cases h with
      | @sl _ _ _ _ _ cap' _ _ l h h1 h2 h3 =>
        obtain ⟨us, a1, a2, a3⟩ := run_cells_mem (P := P) (r.mem hk c1 h) off (len * sz') c3
        refine ⟨us, a1, fun j hj => ar_take c3 a2 j (by rw [List.length_take, List.length_drop]; omega), fun w' => rfl, fun w' hw => ?_⟩
        simpa [Builtin.firstCells] using a3 w' hw
      | sl0 A =>
        refine ⟨#[], by simp, fun j hj => by simp at hj, fun w' => rfl, fun w' _ => ?_⟩
        cases A <;> simp [Builtin.firstCells, loadCells, loadCellsFrom]
  | vsl len cs cx =>
    obtain ⟨c1, hK⟩ := hc
    refine ⟨len, cs, hK, c1, fun σ w u r h => ?_⟩
    cases h with
    | @vsl _ _ _ B o c' u hr hm ha hl hx =>
      obtain ⟨us, a1, a2, a3⟩ := run_cells_mem (P := P) (Mem.of_fun hm ha) 0 (len * sz) (by omega)
      refine ⟨us, a1, fun j hj => by simpa using a2 j hj, fun w' => rfl, fun w' hw => ?_⟩
      simpa [Builtin.firstCells] using a3 w' hw
    | vsl0 A c' hx =>
      refine ⟨#[], by simp, fun j hj => by simp at hj, fun w' => rfl, fun w' _ => ?_⟩
      cases A <;> simp [Builtin.firstCells, loadCells, loadCellsFrom]
  | _ => exact hc.elim
/-- A slice to which something is appended. -/
def aapp (P : Program) (H : AHeap) (e : TypeId) (sz by' : Nat) (s : AV) (m : Nat) (c : List AV) (K : AV → AHeap → Prop) : Prop :=
  match s with
  | .v (.slice none 0 0) => m * by' ≤ 140737488355328 ∧ m ≤ 9223372036854775807 ∧ K (.sl H.length 0 0 m m sz false) (H ++ [⟨c, 0, true, e⟩])
  | .vsl len cs cx => cs.length = len * sz ∧ (len + m) * by' ≤ 140737488355328 ∧ len + m ≤ 9223372036854775807 ∧ (match cx with | some n => n < len + m ∨ (len = 0 ∧ n = 0) | none => False) ∧
      K (.sl H.length 0 0 (len + m) (len + m) sz false) (H ++ [⟨cs ++ c, 0, true, e⟩])
  | .sl b ver off len cap sz' x => sz' = sz ∧ (len + m) * by' ≤ 140737488355328 ∧ len + m ≤ 9223372036854775807 ∧ match H[b]? with
    | some k => k.live = true ∧ k.ver = ver ∧ k.elem = e ∧ off + len * sz ≤ k.cells.length ∧
      (match x with
        | false => off = 0 ∧ c.all AV.one = true ∧ K (.sl b (ver + 1) 0 (len + m) (len + m) sz false) (H.set b ⟨(k.cells.drop off).take (len * sz) ++ c, ver + 1, true, e⟩)
        | true => if len + m ≤ cap ∧ 0 < cap then off + cap * sz ≤ k.cells.length ∧ c.all AV.one = true ∧ K (.sl b ver off (len + m) cap sz true) (H.set b { k with cells := splice k.cells (off + len * sz) c })
          else K (.sl H.length 0 0 (len + m) (len + m) sz false) (H ++ [⟨(k.cells.drop off).take (len * sz) ++ c, 0, true, e⟩]))
    | none => False
  | .bsl b ver n => sz = 1 ∧ (n + m) * by' ≤ 140737488355328 ∧ n + m ≤ 9223372036854775807 ∧ match H[b]? with
    | some k => k.live = true ∧ k.ver = ver ∧ k.elem = e ∧ n ≤ k.cells.length ∧ c.all AV.one = true ∧ K (.bsl b (ver + 1) (n + m)) (H.set b ⟨k.cells.take n ++ c, ver + 1, true, e⟩)
    | none => False
  | _ => False
/-- The same, where nothing that was there turns. -/
def aappQ (P : Program) (H : AHeap) (e : TypeId) (sz by' : Nat) (s : AV) (m : Nat) (c : List AV) (K : AV → AHeap → Prop) : Prop :=
  match s with
  | .sl b ver off len cap sz' true => sz' = sz ∧ (len + m) * by' ≤ 140737488355328 ∧ len + m ≤ 9223372036854775807 ∧ match H[b]? with
    | some k => k.live = true ∧ k.ver = ver ∧ k.elem = e ∧ off + len * sz ≤ k.cells.length ∧ (cap < len + m ∨ cap = 0) ∧ K (.sl H.length 0 0 (len + m) (len + m) sz false) (H ++ [⟨(k.cells.drop off).take (len * sz) ++ c, 0, true, e⟩])
    | none => False
  | .vsl len cs cx => cs.length = len * sz ∧ (len + m) * by' ≤ 140737488355328 ∧ len + m ≤ 9223372036854775807 ∧ (match cx with | some n => n < len + m ∨ (len = 0 ∧ n = 0) | none => False) ∧
      K (.sl H.length 0 0 (len + m) (len + m) sz false) (H ++ [⟨cs ++ c, 0, true, e⟩])
  | _ => False
/-- A block of which nothing lies in the machine. -/
theorem Rel.ghost (r : Rel G σ H w) (k : Blk) : Rel G σ (H ++ [k]) w ∧ Ext σ H w σ (H ++ [k]) w := by
  have hget : ∀ (b : Nat) (k' : Blk) (ver : Nat) (l : Loc), (H ++ [k])[b]? = some k' → σ.ρ b ver = some l → H[b]? = some k' := by
    intro b k' ver l h1 h2
    rw [List.getElem?_append] at h1
    split at h1
    · exact h1
    · have : b = H.length := by
        rcases Nat.lt_or_ge (b - H.length) 1 with h3 | h3
        · omega
        · rw [List.getElem?_eq_none (by simpa using h3)] at h1
          cases h1
      subst this
      rw [r.free] at h2
      cases h2
  refine ⟨⟨fun b k' l h1 h2 h3 => r.blk b k' l (hget _ _ _ _ h1 h3) h2 h3, fun b1 b2 k1 k2 l1 l2 h1 h2 h3 g1 g2 g3 => r.inj b1 b2 k1 k2 l1 l2 (hget _ _ _ _ h1 h3) h2 h3 (hget _ _ _ _ g1 g3) g2 g3,
    fun b k' l h1 h2 h3 => r.apart b k' l (hget _ _ _ _ h1 h3) h2 h3, r.roLt, fun b ver l h => ?_, r.glob, r.base0⟩,
    ⟨rfl, rfl, rfl, Nat.le_refl _, fun _ _ _ h => h, fun _ h => h, fun _ _ _ => rfl, fun _ _ _ h => .inl h, fun b k' l h h1 h2 => ⟨k', hget _ _ _ _ h h2, h1, rfl⟩, fun _ h => .inl h, by simp⟩⟩
  obtain ⟨k0, a1, a2⟩ := r.fresh b ver l h
  exact ⟨k0, by rw [List.getElem?_append_left (List.getElem?_eq_some_iff.1 a1).1]; exact a1, a2⟩
/-- A later version, of which nothing lies in the machine. -/
theorem Rel.ghostBump (r : Rel G σ H w) {b : Nat} {k : Blk} (hk : H[b]? = some k) (k' : Blk) (hv : k.ver < k'.ver) : Rel G σ (H.set b k') w ∧ Ext σ H w σ (H.set b k') w := by
  have hlt : b < H.length := (List.getElem?_eq_some_iff.1 hk).1
  have hget : ∀ (b' : Nat) (k1 : Blk) (l : Loc), (H.set b k')[b']? = some k1 → σ.ρ b' k1.ver = some l → H[b']? = some k1 := by
    intro b' k1 l h1 h2
    rw [List.getElem?_set] at h1
    split at h1
    · rename_i e
      subst e
      try rw [if_pos hlt] at h1
      cases h1
      rw [r.later hk hv] at h2
      cases h2
    · exact h1
  refine ⟨⟨fun b' k1 l h1 h2 h3 => r.blk b' k1 l (hget _ _ _ h1 h3) h2 h3, fun b1 b2 k1 k2 l1 l2 h1 h2 h3 g1 g2 g3 => r.inj b1 b2 k1 k2 l1 l2 (hget _ _ _ h1 h3) h2 h3 (hget _ _ _ g1 g3) g2 g3,
    fun b' k1 l h1 h2 h3 => r.apart b' k1 l (hget _ _ _ h1 h3) h2 h3, r.roLt, fun b' ver l h => ?_, r.glob, r.base0⟩,
    ⟨rfl, rfl, rfl, Nat.le_refl _, fun _ _ _ h => h, fun _ h => h, fun _ _ _ => rfl, fun _ _ _ h => .inl h, fun b' k1 l h h1 h2 => ⟨k1, hget _ _ _ h h2, h1, rfl⟩, fun _ h => .inl h, by simp⟩⟩
  obtain ⟨k0, a1, a2⟩ := r.fresh b' ver l h
  by_cases e : b' = b
  · subst e
    rw [hk] at a1
    cases a1
    exact ⟨_, List.getElem?_set_self hlt, by omega⟩
  · exact ⟨k0, by rw [List.getElem?_set_ne (fun e' => e e'.symm)]; exact a1, a2⟩
theorem splice_nil (cs : List AV) (off : Nat) : splice cs off [] = cs := by simp [splice]
theorem set_same {b : Nat} {k : Blk} (h : H[b]? = some k) : H.set b k = H := by
  apply List.ext_getElem?
  intro j
  rw [List.getElem?_set]
  split
  · rename_i e
    subst e
    have hlt := (List.getElem?_eq_some_iff.1 h).1
    simp only [hlt, if_true]
    exact h.symm
  · rfl
theorem getD_lt {us : Array Value} {j : Nat} (h : j < us.size) : us[j]? = some (us.getD j undef) := by simp [h]
/-- The grown row: where it lies anew. -/
theorem grown_cells {olds news z : Array Value} {n m sz cap : Nat} {e : TypeId} {c0 c1 : List AV} (h1 : olds.size = n * sz) (h2 : news.size = m * sz) (hz : z.size = sz) (hcap : n + m ≤ cap) (l0 : c0.length = n * sz) (l1 : c1.length = m * sz)
    (a0 : ∀ j, j < n * sz → AR σ w (c0.getD j .any) (olds.getD j undef)) (a1 : ∀ j, j < m * sz → AR σ w (c1.getD j .any) (news.getD j undef)) :
    (olds ++ news ++ Builtin.zeroCells z (cap - (n + m))).size = cap * sz ∧ (c0 ++ c1).length ≤ (olds ++ news ++ Builtin.zeroCells z (cap - (n + m))).size ∧
      ∀ j, j < (c0 ++ c1).length → ∃ u, (olds ++ news ++ Builtin.zeroCells z (cap - (n + m)))[j]? = some u ∧ AR σ w ((c0 ++ c1).getD j .any) u := by
  have hs : (olds ++ news ++ Builtin.zeroCells z (cap - (n + m))).size = cap * sz := by
    simp only [Array.size_append, size_zeroCells, h1, h2, hz, ← Nat.add_mul]
    congr 1
    omega
  have hle : (n + m) * sz ≤ cap * sz := Nat.mul_le_mul_right _ hcap
  rw [Nat.add_mul] at hle
  refine ⟨hs, by rw [hs, List.length_append, l0, l1]; exact hle, fun j hj => ?_⟩
  rw [List.length_append, l0, l1] at hj
  rw [Array.append_assoc, Array.getElem?_append, List.getD_eq_getElem?_getD, List.getElem?_append, l0, h1]
  by_cases hjn : j < n * sz
  · rw [if_pos hjn, if_pos hjn, ← List.getD_eq_getElem?_getD]
    exact ⟨_, getD_lt (by omega), a0 j hjn⟩
  · rw [if_neg hjn, if_neg hjn, Array.getElem?_append, if_pos (by omega), ← List.getD_eq_getElem?_getD]
    exact ⟨_, getD_lt (by omega), a1 (j - n * sz) (by omega)⟩
theorem Res.of {q : Bool} {r : AV} {H' : AHeap} {u : Value} {w' : World} {σ' : Sig} (h1 : AR σ' w' r u) (h2 : Rel G σ' H' w') (h3 : Ext σ H w σ' H' w') (h4 : q = true → Quiet σ H w σ' w') : Res G q σ H w r H' u w' := ⟨σ', h1, h2, h3, h4⟩
theorem drewRel (r : Rel G σ H w) : Rel G σ H w.drew := Rel.drew (w := w) (w' := w.drew) rfl r
theorem drewAR {x : AV} {u : Value} (h : AR σ w x u) : AR σ w.drew x u := AR.drew (w := w) (w' := w.drew) rfl h
theorem drewExt : Ext σ H w σ H w.drew := Ext.drew rfl rfl rfl rfl
/-- A grown row, in a new block. -/
theorem far_new (r : Rel G σ H w) {olds news z : Array Value} {n m sz cap : Nat} {e : TypeId} {c0 c1 : List AV} (h1 : olds.size = n * sz) (h2 : news.size = m * sz) (hz : z.size = sz) (hcap : n + m ≤ cap) (l0 : c0.length = n * sz) (l1 : c1.length = m * sz)
    (a0 : ∀ j, j < n * sz → AR σ w (c0.getD j .any) (olds.getD j undef)) (a1 : ∀ j, j < m * sz → AR σ w (c1.getD j .any) (news.getD j undef)) :
    Res G true σ H w (.sl H.length 0 0 (n + m) (n + m) sz false) (H ++ [⟨c0 ++ c1, 0, true, e⟩]) (.slice (some ⟨w.heap.size, 0, none⟩) (n + m) cap) (w.drew.alloc (.cells (olds ++ news ++ Builtin.zeroCells z (cap - (n + m))) e)) := by
  obtain ⟨g1, g2, g3⟩ := grown_cells (e := e) h1 h2 hz hcap l0 l1 a0 a1
  obtain ⟨p1, p2, p3⟩ := (drewRel r).push (c0 ++ c1) _ e (0, 0) (.inr rfl) g2 (fun j hj => by
    obtain ⟨u, b1, b2⟩ := g3 j hj
    rw [Array.getD_eq_getD_getElem?, b1]
    exact drewAR b2)
  refine Res.of ?_ p1 (drewExt.trans p2) (fun _ => ⟨fun B hB => .same (RowKit.Below.heap_alloc _ _ _ (by exact hB)), push_keys⟩)
  exact AR.sl (l := ⟨w.drew.heap.size, 0, (olds ++ news ++ Builtin.zeroCells z (cap - (n + m))).size⟩) (if_pos ⟨rfl, rfl⟩) hcap (fun h => by cases h) (by simp only [Nat.zero_add]; rw [g1]; exact Nat.le_refl _)
/-- A grown row, in a new block, under its old name. -/
theorem far_bump (r : Rel G σ H w) {b : Nat} {k : Blk} (hk : H[b]? = some k) (hlv : k.live = true) {olds news z : Array Value} {n m sz cap : Nat} {e : TypeId} {c0 c1 : List AV} (h1 : olds.size = n * sz) (h2 : news.size = m * sz) (hz : z.size = sz) (hcap : n + m ≤ cap)
    (l0 : c0.length = n * sz) (l1 : c1.length = m * sz) (a0 : ∀ j, j < n * sz → AR σ w (c0.getD j .any) (olds.getD j undef)) (a1 : ∀ j, j < m * sz → AR σ w (c1.getD j .any) (news.getD j undef)) :
    Res G false σ H w (.sl b (k.ver + 1) 0 (n + m) (n + m) sz false) (H.set b ⟨c0 ++ c1, k.ver + 1, true, e⟩) (.slice (some ⟨w.heap.size, 0, none⟩) (n + m) cap) (w.drew.alloc (.cells (olds ++ news ++ Builtin.zeroCells z (cap - (n + m))) e)) := by
  obtain ⟨g1, g2, g3⟩ := grown_cells (e := e) h1 h2 hz hcap l0 l1 a0 a1
  obtain ⟨p1, p2, p3⟩ := (drewRel r).bump hk hlv (C := olds ++ news ++ Builtin.zeroCells z (cap - (n + m))) (T := e) (fr := (0, 0)) (w' := w.drew.alloc (.cells (olds ++ news ++ Builtin.zeroCells z (cap - (n + m))) e)) (c0 ++ c1)
    ⟨w.heap.size, 0, (olds ++ news ++ Builtin.zeroCells z (cap - (n + m))).size⟩ (heap_alloc_new w.drew _) rfl (by simpa using g2) (.inr rfl)
    (fun j hj => by
      obtain ⟨u, b1, b2⟩ := g3 j hj
      exact ⟨u, by simpa using b1, drewAR b2⟩) (.inl (Nat.le_refl _)) rfl (fun B hB _ => RowKit.Below.heap_alloc _ _ _ hB) (by simp) rfl rfl rfl
  refine Res.of ?_ p1 (drewExt.trans p2) (fun h => by cases h)
  exact AR.sl (l := ⟨w.heap.size, 0, (olds ++ news ++ Builtin.zeroCells z (cap - (n + m))).size⟩) (if_pos ⟨rfl, rfl⟩) hcap (fun h => by cases h) (by simp only [Nat.zero_add]; rw [g1]; exact Nat.le_refl _)
end Go.Abs
