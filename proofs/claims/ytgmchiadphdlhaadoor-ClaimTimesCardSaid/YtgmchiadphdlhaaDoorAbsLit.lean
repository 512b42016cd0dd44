/- Conversions, literals, new variables, reading and writing. -/
import Derived.Test.YtgmchiadphdlhaaDoorAbsMore
namespace Go.Abs
set_option linter.unusedVariables false
set_option linter.unusedSimpArgs false
variable {P : Program} {G : Glob} {σ : Sig} {H : AHeap} {w : World}
def ints (k : IntKind) (l : List Int) : List AV := l.map fun n => .v (.int k n)
theorem ints_length (k : IntKind) (l : List Int) : (ints k l).length = l.length := by simp [ints]
theorem ints_get {k : IntKind} {l : List Int} {j : Nat} (h : j < l.length) : (ints k l).getD j .any = .v (.int k (l.getD j 0)) := by
  simp [ints, List.getD_eq_getElem?_getD, h]
def bytesOf (s : ByteArray) : List Int := s.data.toList.map fun b => (b.toNat : Int)
def strOf (l : List Int) : ByteArray := ⟨(l.map fun n => UInt8.ofNat n.toNat).toArray⟩
def aConv (P : Program) (H : AHeap) (src dst : TypeId) (x : AV) (K : AV → AHeap → Prop) : Prop :=
  match x with
  | .v (.int _ n) => match P.underlying src, P.underlying dst with
    | some _, some (.int k) => K (.v (.int k (k.wrap n))) H
    | some (.int _), some .string => K (.v (.string (Utf8.encode n))) H
    | _, _ => False
  | .v (.string s) => match P.underlying src, P.underlying dst with
    | some .string, some .string => K (.v (.string s)) H
    | some .string, some (.slice e) => P.underlying e = some (.int .u8) ∧ K (.sl H.length 0 0 s.size s.size 1 false) (H ++ [⟨ints .u8 (bytesOf s), 0, true, e⟩])
    | _, _ => False
  | x => match P.underlying src, P.underlying dst with
    | some (.slice e), some .string => P.underlying e = some (.int .u8) ∧ acont H 1 x fun _ cs => ∃ l, cs = ints .u8 l ∧ K (.v (.string (strOf l))) H
    | some (.slice _), some (.slice e) => src = dst ∧ P.underlying e = some (.int .u8) ∧ (match x with
      | .sl b ver off len cap sz x => 0 < len ∧ (match H[b]? with | some k => k.live = true ∧ k.ver = ver | none => False) ∧ K (.sl b ver off len cap sz x) H
      | _ => False)
    | _, _ => False
theorem foldl_push : ∀ (ns : List Int) (s : ByteArray), ns.foldl (fun r n => r.push (UInt8.ofNat n.toNat)) s = ⟨s.data ++ (ns.map fun n => UInt8.ofNat n.toNat).toArray⟩
  | [], s => by simp
  | n :: ns, s => by
    rw [List.foldl_cons, foldl_push ns]
    congr 1
    show s.data.push (UInt8.ofNat n.toNat) ++ (ns.map fun n => UInt8.ofNat n.toNat).toArray = s.data ++ ((n :: ns).map fun n => UInt8.ofNat n.toNat).toArray
    rw [← Array.append_singleton, Array.append_assoc]
    simp
theorem Rel.marked (r : Rel G σ H w) {b : Nat} {k : Blk} {l : Loc} (hk : H[b]? = some k) (hlv : k.live = true) (hl : σ.ρ b k.ver = some l) :
    Rel G σ H (w.freeze ⟨l.B, l.lim, none⟩ 1) ∧ Ext σ H w σ H (w.freeze ⟨l.B, l.lim, none⟩ 1) ∧ (∀ x u, AR σ w x u → AR σ (w.freeze ⟨l.B, l.lim, none⟩ 1) x u) ∧ w.shape? l.B = some (k.elem, l.lim) ∧ ∀ B, B < w.heap.size → Alike w.heap[B]? (w.freeze ⟨l.B, l.lim, none⟩ 1).heap[B]? := by
  obtain ⟨C, fr, h1, h2, h3, h4, h5⟩ := r.blk b k l hk hlv hl
  have hb : (w.freeze ⟨l.B, l.lim, none⟩ 1).heap[l.B]? = some (.cells C k.elem (if fr.1 == fr.2 then (l.lim, l.lim + 1) else (min fr.1 l.lim, max fr.2 (l.lim + 1)))) := by
    simp [World.freeze, Array.getElem?_modify, h1]
  have := r.upd hk hlv hl (C := C) (fr := if fr.1 == fr.2 then (l.lim, l.lim + 1) else (min fr.1 l.lim, max fr.2 (l.lim + 1))) (w' := w.freeze ⟨l.B, l.lim, none⟩ 1) k.cells hb h2 h3 (by
      split
      · exact .inl (Nat.le_refl _)
      · rename_i hne
        simp only [beq_iff_eq] at hne
        rcases h4 with h | h
        · exact .inl (by show l.lim ≤ min fr.1 l.lim; omega)
        · exact absurd h hne) h5 (fun B hB => by
      simp only [World.freeze]
      rw [if_neg (by decide)]
      simp only [Array.getElem?_modify]
      rw [if_neg (fun e => hB e.symm)]) (by simp [World.freeze]) rfl rfl rfl
  rw [show ({ k with cells := k.cells } : Blk) = k from rfl, set_same hk] at this
  refine ⟨this.1, this.2.1, this.2.2, by simp [World.shape?, h1, h2], fun B hB => ?_⟩
  by_cases e : B = l.B
  · subst e
    rw [hb, h1]
    exact .marked _ _ (fun _ => by
      split
      · exact .inl (by omega)
      · rename_i hne
        simp only [beq_iff_eq] at hne
        rcases h4 with h | h
        · exact .inl (by show C.size ≤ min fr.1 l.lim; omega)
        · exact absurd h hne)
  · refine .same ?_
    simp only [World.freeze]
    rw [if_neg (by decide)]
    simp only [Array.getElem?_modify]
    rw [if_neg (fun e' => e e'.symm)]
theorem ints_ar {k : IntKind} {l : List Int} {us : Array Value} {n : Nat} (hl : l.length = n) (hu : us.size = n) (h : ∀ j, j < n → AR σ w ((ints k l).getD j .any) (us.getD j undef)) : us = (l.map (Value.int k)).toArray := by
  apply Array.ext_getElem?
  intro j
  by_cases hj : j < n
  · have := h j hj
    rw [ints_get (by omega)] at this
    rw [getD_lt (by omega)]
    generalize us.getD j undef = u at *
    cases this
    simp [List.getD_eq_getElem?_getD, show j < l.length by omega]
  · rw [Array.getElem?_eq_none (by omega), Array.getElem?_eq_none (by simp; omega)]
theorem acont_u8 {x : AV} {e : TypeId} {src dst : TypeId} (hs : P.underlying src = some (.slice e)) (hd : P.underlying dst = some .string) (he : P.underlying e = some (.int .u8)) {K : AV → Prop} (G : Glob) (hx : ∀ s, x ≠ .v (.string s))
    (h : acont H 1 x fun _ cs => ∃ l, cs = ints .u8 l ∧ K (.v (.string (strOf l)))) : ∃ r, K r ∧ ∀ (σ : Sig) (w : World) (ux : Value), Rel G σ H w → AR σ w x ux → ∃ u, (convert src dst ux).run P w = .ok u w ∧ AR σ w r u := by
  obtain ⟨n, cs, ⟨l, rfl, hK⟩, hcl, hr⟩ := acont_ok (P := P) G h
  refine ⟨_, hK, fun σ w ux r hxr => ?_⟩
  obtain ⟨us, n1, n2, n3, n4⟩ := hr σ w ux r hxr
  rw [ints_length, Nat.mul_one] at hcl
  rw [Nat.mul_one] at n1 n2
  have hus := ints_ar hcl n1 n2
  have key : ∀ (A : Option Addr) (len cap : Nat), ux = .slice A len cap → ∃ u, (convert src dst ux).run P w = .ok u w ∧ AR σ w (.v (.string (strOf l))) u := by
    rintro A len cap rfl
    have hlen : len = n := by
      have := n3 w
      simp [Builtin.lenOf] at this
      exact this
    subst hlen
    rw [run_convert_bytes_string w src dst e A len cap hs he hd]
    have h4 := n4 w rfl
    cases A with
    | none =>
      simp [Builtin.firstCells] at h4
      rw [hus] at h4
      have : l = [] := by cases l <;> simp_all
      subst this
      exact ⟨_, by simp [Conv.bytesToString]; rfl, .v _⟩
    | some a =>
      simp only [Builtin.firstCells, Nat.mul_one] at h4
      rw [hus] at h4
      rw [run_bytesToString w a len cap l h4, foldl_push]
      refine ⟨_, rfl, ?_⟩
      have : (ByteArray.empty.data ++ (l.map fun n => UInt8.ofNat n.toNat).toArray) = (l.map fun n => UInt8.ofNat n.toNat).toArray := by
        show (#[] : Array UInt8) ++ _ = _
        simp
      rw [this]
      exact .v _
  cases x with
  | v y =>
    cases hxr
    cases ux with
    | slice A len cap => exact key _ _ _ rfl
    | string s => exact absurd rfl (hx s)
    | _ => exact h.elim
  | sl b ver off len cap sz xx => cases hxr <;> exact key _ _ _ rfl
  | vsl len cs cx => cases hxr <;> exact key _ _ _ rfl
  | _ => exact h.elim
theorem aConv_ok (G : Glob) {src dst : TypeId} {x : AV} {K : AV → AHeap → Prop} (h : aConv P H src dst x K) :
    ∃ r H', K r H' ∧ (∃ N, H' = H ++ N) ∧ ∀ (σ : Sig) (w : World) (ux : Value), Rel G σ H w → AR σ w x ux → ∃ u w', (convert src dst ux).run P w = .ok u w' ∧ Res G true σ H w r H' u w' := by
  unfold aConv at h
  have lift : ∀ {r : AV}, (∀ (σ : Sig) (w : World) (ux : Value), Rel G σ H w → AR σ w x ux → ∃ u, (convert src dst ux).run P w = .ok u w ∧ AR σ w r u) → K r H →
      ∃ r H', K r H' ∧ (∃ N, H' = H ++ N) ∧ ∀ (σ : Sig) (w : World) (ux : Value), Rel G σ H w → AR σ w x ux → ∃ u w', (convert src dst ux).run P w = .ok u w' ∧ Res G true σ H w r H' u w' := by
    intro r hr hK
    refine ⟨r, H, hK, ⟨[], by simp⟩, fun σ w ux rel hx => ?_⟩
    obtain ⟨u, h1, h2⟩ := hr σ w ux rel hx
    exact ⟨u, w, h1, Res.same rel h2⟩
  split at h
  · rename_i k n
    cases hs : P.underlying src with
    | none => simp [hs] at h
    | some ds =>
      cases hd : P.underlying dst with
      | none => cases ds <;> simp [hs, hd] at h
      | some dd =>
        cases dd with
        | int kd =>
          simp only [hs, hd] at h
          refine lift (fun σ w ux rel hx => ?_) h
          cases hx
          exact ⟨_, by simp [convert, run_underlying hs, run_underlying hd, Conv.intToInt], .v _⟩
        | string =>
          cases ds <;> simp only [hs, hd] at h <;> try (exact h.elim)
          refine lift (fun σ w ux rel hx => ?_) h
          cases hx
          exact ⟨_, by simp [convert, run_underlying hs, run_underlying hd, Conv.intToString], .v _⟩
        | _ => cases ds <;> simp [hs, hd] at h
  · rename_i s
    cases hs : P.underlying src with
    | none => simp [hs] at h
    | some ds =>
      cases ds <;> simp only [hs] at h <;> try (exact h.elim)
      cases hd : P.underlying dst with
      | none => simp [hd] at h
      | some dd =>
        cases dd <;> simp only [hd] at h <;> try (exact h.elim)
        · refine lift (fun σ w ux rel hx => ?_) h
          cases hx
          exact ⟨_, by simp [convert, run_underlying hs, run_underlying hd], .v _⟩
        · rename_i e
          obtain ⟨he, hK⟩ := h
          refine ⟨_, _, hK, ⟨_, rfl⟩, fun σ w ux rel hx => ?_⟩
          cases hx
          have hcap := grownCap_ge w s.size 0 e
          let C : Array Value := (s.data.map fun b => Value.int .u8 b.toNat) ++ Array.replicate (grownCap w s.size 0 e - s.size) (.int .u8 0)
          have hCs : C.size = grownCap w s.size 0 e := by
            simp only [C, Array.size_append, Array.size_map, Array.size_replicate]
            have : s.data.size = s.size := rfl
            omega
          have hbl : (ints .u8 (bytesOf s)).length = s.size := by rw [ints_length, bytesOf, List.length_map]; rfl
          obtain ⟨p1, p2, p3⟩ := (drewRel rel).push (ints .u8 (bytesOf s)) C e (0, 0) (.inr rfl) (by rw [hbl, hCs]; exact hcap) (fun j hj => by
            rw [hbl] at hj
            have hj' : j < s.data.size := hj
            rw [ints_get (by rw [← ints_length .u8, hbl]; exact hj)]
            have : C.getD j undef = .int .u8 ((bytesOf s).getD j 0) := by
              simp [C, bytesOf, Array.getElem?_append, hj, hj', Array.getElem?_eq_getElem hj', List.getD_eq_getElem?_getD]
            rw [this]
            exact .v _)
          have hkey : (H ++ [(⟨ints .u8 (bytesOf s), 0, true, e⟩ : Blk)])[H.length]? = some ⟨ints .u8 (bytesOf s), 0, true, e⟩ := by simp
          obtain ⟨m1, m2, m3, m4, _⟩ := p1.marked hkey rfl (l := ⟨w.drew.heap.size, 0, C.size⟩) (if_pos ⟨rfl, rfl⟩)
          refine ⟨_, (w.drew.alloc (.cells C e)).freeze ⟨w.heap.size, C.size, none⟩ 1, ?_, Res.of (m3 _ _ (AR.sl (l := ⟨w.drew.heap.size, 0, C.size⟩) (cap' := grownCap w s.size 0 e) (if_pos ⟨rfl, rfl⟩) hcap (fun h => by cases h) (by simp only [Nat.zero_add, Nat.mul_one]; rw [hCs]; exact Nat.le_refl _))) m1 (drewExt.trans (p2.trans m2)) (fun _ => ⟨fun B hB => .same ?_, push_keys⟩)⟩
          · have hsh : (w.drew.alloc (.cells C e)).shape? w.heap.size = some (e, C.size) := m4
            have hst : (Conv.stringToBytes e s).run P w = .ok (.slice (some ⟨w.heap.size, 0, none⟩) s.size (grownCap w s.size 0 e)) ((w.drew.alloc (.cells C e)).freeze ⟨w.heap.size, C.size, none⟩ 1) := by
              simp only [Conv.stringToBytes, Sem.run_bind, run_choose, Question.forced, Bool.false_eq_true, if_false, Result.andThen_ok, newRow, run_newObj, Sem.run_pure, markStringish, run_shape]
              change ((Sem.run P (match (w.drew.alloc (.cells C e)).shape? w.heap.size with | some (_, n) => freeze { block := w.heap.size, off := n } 1 | _ => pure ()) (w.drew.alloc (.cells C e))).andThen fun a w' => Result.ok (Value.slice (some ⟨w.heap.size, 0, none⟩) s.size (grownCap w s.size 0 e)) w') = _
              rw [hsh]
              rfl
            simp only [convert, run_underlying hs, run_underlying hd, run_underlying he, Sem.run_bind, Result.andThen_ok]
            exact hst
          · have h1 : (w.drew.alloc (.cells C e)).heap[B]? = w.heap[B]? := RowKit.Below.heap_alloc _ _ _ hB
            rw [← h1]
            simp only [World.freeze]
            rw [if_neg (by decide)]
            simp only [Array.getElem?_modify]
            rw [if_neg (by omega)]
  · rename_i hi hst
    cases hs : P.underlying src with
    | none => simp [hs] at h
    | some ds =>
      cases ds <;> simp only [hs] at h <;> try (exact h.elim)
      rename_i e0
      cases hd : P.underlying dst with
      | none => simp [hd] at h
      | some dd =>
        cases dd <;> simp only [hd] at h <;> try (exact h.elim)
        · obtain ⟨he, h⟩ := h
          obtain ⟨r, hK, hr⟩ := acont_u8 (K := fun r => K r H) hs hd he G (fun s e => hst s e) h
          exact lift hr hK
        · rename_i e
          obtain ⟨rfl, he, h⟩ := h
          have he0 : e0 = e := by rw [hs] at hd; simpa using hd
          subst he0
          cases x <;> try (exact h.elim)
          rename_i b ver off len cap sz xx
          obtain ⟨hpos, hk, hK⟩ := h
          refine ⟨_, _, hK, ⟨[], by simp⟩, fun σ w ux rel hx => ?_⟩
          cases hk' : H[b]? with
          | none => simp [hk'] at hk
          | some k =>
            simp only [hk'] at hk
            obtain ⟨hlv, rfl⟩ := hk
            cases hx with
            | @sl _ _ _ _ _ cap' _ _ l h h1 h2 h3 =>
              obtain ⟨m1, m2, m3, m4, m5⟩ := rel.marked hk' hlv h
              refine ⟨_, _, ?_, Res.of (m3 _ _ (.sl h h1 h2 h3)) m1 m2 (fun _ => ⟨m5, fun _ _ _ h => .inl h⟩)⟩
              simp only [convert, run_underlying hs, run_underlying he, Sem.run_bind, Result.andThen_ok, markStringish, run_shape, m4, beq_self_eq_true, run_freeze, Sem.run_pure]
            | sl0 A => omega
/-- A new variable. -/
def aAlloc (P : Program) (H : AHeap) (e : TypeId) (K : AV → AHeap → Prop) : Prop :=
  match tzero P e with
  | some z => K (.ptr H.length 0 0) (H ++ [⟨z.cells.toList.map .v, 0, true, e⟩])
  | none => False
theorem newVar_ok (r : Rel G σ H w) (e : TypeId) (v : Value) (cs : List AV) (hl : v.cells.size = cs.length) (ha : ∀ j, j < cs.length → AR σ w (cs.getD j .any) (v.cells.getD j undef)) :
    (newVar e v).run P w = .ok ⟨w.heap.size, 0, none⟩ (w.alloc (.cells v.cells e)) ∧ Res G true σ H w (.ptr H.length 0 0) (H ++ [⟨cs, 0, true, e⟩]) (.pointer (some ⟨w.heap.size, 0, none⟩)) (w.alloc (.cells v.cells e)) := by
  obtain ⟨p1, p2, p3⟩ := r.push cs v.cells e (0, 0) (.inr rfl) (by omega) ha
  exact ⟨by simp [newVar, newRow], Res.of (AR.ptr (off := 0) (l := ⟨w.heap.size, 0, v.cells.size⟩) (if_pos ⟨rfl, rfl⟩)) p1 p2 (fun _ => ⟨fun B hB => .same (RowKit.Below.heap_alloc _ _ _ hB), push_keys⟩)⟩
theorem run_zero {e : TypeId} {z : Value} (h : tzero P e = some z) : (zeroValue e).run P w = .ok z w := by
  unfold tzero at h
  cases hi : P.info? e with
  | none => simp [hi] at h
  | some i =>
    simp only [hi, Option.bind_some] at h
    simp [zeroValue, typeInfo, hi, h]
theorem flat_get (us : Array Value) : ∀ j, j < (us.toList.map AV.v).length → AR σ w ((us.toList.map AV.v).getD j .any) (us.getD j undef) := by
  intro j hj
  have hj' : j < us.size := by simpa using hj
  simp only [List.getD_eq_getElem?_getD, List.getElem?_map, Array.getElem?_toList, Array.getElem?_eq_getElem hj', Option.map_some, Option.getD_some, Array.getD_eq_getD_getElem?]
  exact .v _
theorem aAlloc_ok (G : Glob) {e : TypeId} {K : AV → AHeap → Prop} (h : aAlloc P H e K) : ∃ r H', K r H' ∧ (∃ N, H' = H ++ N) ∧ ∀ (σ : Sig) (w : World), Rel G σ H w → ∃ u w', (Instr.alloc e true (.tuple #[])).run P w = .ok u w' ∧ Res G true σ H w r H' u w' := by
  unfold aAlloc at h
  cases hz : tzero P e with
  | none => simp [hz] at h
  | some z =>
    simp only [hz] at h
    refine ⟨_, _, h, ⟨_, rfl⟩, fun σ w r => ?_⟩
    obtain ⟨h1, h2⟩ := newVar_ok (P := P) r e z (z.cells.toList.map .v) (by simp) (flat_get _)
    exact ⟨_, _, by simp only [Instr.alloc, Sem.run_bind, run_zero hz, Result.andThen_ok, h1, Sem.run_pure], h2⟩
def aBox (H : AHeap) (e : TypeId) (x : AV) (K : AV → AHeap → Prop) : Prop :=
  match vcells x with
  | some cs => K (.ptr H.length 0 0) (H ++ [⟨cs, 0, true, e⟩])
  | none => False
theorem aBox_ok (G : Glob) {e : TypeId} {x : AV} {K : AV → AHeap → Prop} (h : aBox H e x K) : ∃ r H', K r H' ∧ (∃ N, H' = H ++ N) ∧ ∀ (σ : Sig) (w : World) (ux : Value), Rel G σ H w → AR σ w x ux → ∃ u w', (Instr.box e ux).run P w = .ok u w' ∧ Res G true σ H w r H' u w' := by
  unfold aBox at h
  cases hc : vcells x with
  | none => simp [hc] at h
  | some cs =>
    simp only [hc] at h
    refine ⟨_, _, h, ⟨_, rfl⟩, fun σ w ux r hx => ?_⟩
    obtain ⟨c1, c2⟩ := vcells_ar hc hx
    obtain ⟨h1, h2⟩ := newVar_ok (P := P) r e ux cs c1 c2
    exact ⟨_, _, by simp only [Instr.box, Sem.run_bind, Result.andThen_ok, h1, Sem.run_pure], h2⟩
def aLoad (P : Program) (H : AHeap) (t : TypeId) (x : AV) (K : AV → Prop) : Prop :=
  match x with
  | .ptr b ver off => match H[b]? with
    | some k => k.live = true ∧ k.ver = ver ∧ rdP P t k.cells off K
    | none => False
  | .vptr cs off => rdP P t cs off K
  | _ => False
theorem rdP_fun {t : TypeId} {cs : List AV} {off : Nat} {K : AV → Prop} (h : rdP P t cs off K) : ∃ r, K r ∧ rdP P t cs off (· = r) := by
  unfold rdP at *
  cases hd : P.underlying t with
  | none => simp [hd] at h
  | some d =>
    have rows : (match tsz P t with | some n => off + n ≤ cs.length ∧ K (.agg ((cs.drop off).take n)) | none => False) → ∃ r, K r ∧ (match tsz P t with | some n => off + n ≤ cs.length ∧ (.agg ((cs.drop off).take n)) = r | none => False) := by
      intro h
      cases hs : tsz P t with
      | none => simp [hs] at h
      | some n =>
        simp only [hs] at h
        exact ⟨_, h.2, h.1, rfl⟩
    cases d <;> simp only [hd] at h ⊢ <;> first | exact rows h | exact ⟨_, h.2, h.1, rfl⟩
theorem aLoad_ok (G : Glob) {t : TypeId} {x : AV} {K : AV → Prop} (h : aLoad P H t x K) : ∃ r, K r ∧ ∀ (σ : Sig) (w : World) (ux : Value), Rel G σ H w → AR σ w x ux → ∃ u, (Instr.loadAt t ux).run P w = .ok u w ∧ AR σ w r u := by
  cases x <;> try (exact h.elim)
  · rename_i b ver off
    unfold aLoad at h
    cases hk : H[b]? with
    | none => simp [hk] at h
    | some k =>
      simp only [hk] at h
      obtain ⟨hlv, rfl, h⟩ := h
      obtain ⟨r, hK, h⟩ := rdP_fun h
      refine ⟨r, hK, fun σ w ux rel hx => ?_⟩
      cases hx with
      | ptr hρ =>
        obtain ⟨r', u, rfl, a1, a2⟩ := run_loadVar_mem (P := P) (rel.mem hk hlv hρ) h
        exact ⟨u, by simp only [Instr.loadAt, Instr.sureAddr, Sem.run_bind, Sem.run_pure, Result.andThen_ok, a1], a2⟩
  · rename_i cs off
    obtain ⟨r, hK, h⟩ := rdP_fun h
    refine ⟨r, hK, fun σ w ux rel hx => ?_⟩
    cases hx with
    | vptr B o uu hr hm ha =>
      obtain ⟨r', u, rfl, a1, a2⟩ := run_loadVar_mem (P := P) (Mem.of_fun hm ha) h
      exact ⟨u, by simp only [Instr.loadAt, Instr.sureAddr, Sem.run_bind, Sem.run_pure, Result.andThen_ok, a1], a2⟩
def aStore (P : Program) (H : AHeap) (t : TypeId) (x y : AV) (K : AHeap → Prop) : Prop :=
  match x with
  | .ptr b ver off => match H[b]?, vcells y with
    | some k, some c => k.live = true ∧ k.ver = ver ∧ tsz P t = some c.length ∧ c.all AV.one = true ∧ off + c.length ≤ k.cells.length ∧ K (H.set b { k with cells := splice k.cells off c })
    | _, _ => False
  | _ => False
theorem aStore_ok (G : Glob) {t : TypeId} {x y : AV} {K : AHeap → Prop} (h : aStore P H t x y K) : ∃ H', K H' ∧ ∀ (σ : Sig) (w : World) (ux uy : Value), Rel G σ H w → AR σ w x ux → AR σ w y uy → ∃ w', (Instr.storeAt t ux uy).run P w = .ok () w' ∧ Res G false σ H w (.v undef) H' undef w' := by
  cases x <;> try (exact h.elim)
  rename_i b ver off
  unfold aStore at h
  cases hk : H[b]? with
  | none => simp [hk] at h
  | some k =>
    cases hc : vcells y with
    | none => simp [hk, hc] at h
    | some c =>
      simp only [hk, hc] at h
      obtain ⟨hlv, rfl, hs, hone, hfit, hK⟩ := h
      refine ⟨_, hK, fun σ w ux uy r hx hy => ?_⟩
      cases hx with
      | ptr hρ =>
        obtain ⟨c1, c2⟩ := vcells_ar hc hy
        have c3 : ∀ j, j < c.length → AR σ w (c.getD j .any) (uy.cells.toList.getD j undef) := fun j hj => by
          have := c2 j hj
          simpa [List.getD_eq_getElem?_getD] using this
        obtain ⟨w', s1, s2, s3, s4⟩ := r.store (P := P) hk hlv hρ off c uy.cells.toList (by simp [c1]) hfit (ones_of (σ := σ) (w := w) hone (by simp [c1]) c3) c3
        refine ⟨w', ?_, Res.of (.v _) s2 s3 (fun h => by cases h)⟩
        simp only [Instr.storeAt, Instr.sureAddr, storeVar, Sem.run_bind, Sem.run_pure, Result.andThen_ok, run_sizeOf' hs, c1, ne_eq, not_true_eq_false, if_false, s1]
def aMake (P : Program) (H : AHeap) (t : TypeId) (l c : AV) (K : AV → AHeap → Prop) : Prop :=
  match P.underlying t, l, c with
  | some (.slice e), .v (.int _ n), .v (.int _ m) => match tzero P e, tsz P e, tby P e with
    | some z, some sz, some by' => z.cells.size = sz ∧ 0 < sz ∧ 0 ≤ n ∧ n ≤ m ∧ by' * m ≤ 281474976710656 ∧ m ≤ 9223372036854775807 ∧ (K (.sl H.length 0 0 n.toNat m.toNat sz true) (H ++ [⟨(List.replicate m.toNat (z.cells.toList.map .v)).flatten, 0, true, e⟩]) ∨ (n = m ∧ K (.vsl m.toNat ((List.replicate m.toNat (z.cells.toList.map .v)).flatten) (some m.toNat)) H))
    | _, _, _ => False
  | _, _, _ => False
theorem flatten_get {α : Type} {n : Nat} (z : List α) : ∀ (m : Nat) (j : Nat), z.length = n → j < m * n → ((List.replicate m z).flatten)[j]? = z[j % n]?
  | 0, j, _, h => by simp at h
  | m + 1, j, hz, h => by
    rw [List.replicate_succ, List.flatten_cons, List.getElem?_append]
    split
    · rw [Nat.mod_eq_of_lt (by omega)]
    · rename_i hj
      rw [flatten_get z m (j - z.length) hz (by rw [Nat.succ_mul] at h; omega), hz]
      congr 1
      rw [← Nat.mod_eq_sub_mod (by omega)]
theorem made_get {z : Array Value} {n m : Nat} (hz : z.size = n) (hn : 0 < n) : ∀ j, j < ((List.replicate m (z.toList.map AV.v)).flatten).length → AR σ w (((List.replicate m (z.toList.map AV.v)).flatten).getD j .any) ((madeCells z (m * n)).getD j undef) := by
  intro j hj
  have hj' : j < m * n := by simpa [hz] using hj
  rw [List.getD_eq_getElem?_getD, flatten_get _ m j (by simpa using hz) hj']
  have hlt : j % n < z.size := by rw [hz]; exact Nat.mod_lt _ hn
  have e1 : (madeCells z (m * n)).getD j undef = z[j % n] := by
    simp only [madeCells, Array.getD_eq_getD_getElem?, Array.getElem?_map, Array.getElem?_range, hj', if_true, Option.map_some, Option.getD_some, hz]
    exact getElem!_pos z _ hlt
  rw [e1]
  simp [hlt]
  exact .v _
theorem aMake_ok (G : Glob) {t : TypeId} {l c : AV} {K : AV → AHeap → Prop} (h : aMake P H t l c K) : ∃ r H', K r H' ∧ (∃ N, H' = H ++ N) ∧ ∀ (σ : Sig) (w : World) (ul uc : Value), Rel G σ H w → AR σ w l ul → AR σ w c uc → ∃ u w', (Instr.makeSlice t ul uc).run P w = .ok u w' ∧ Res G true σ H w r H' u w' := by
  unfold aMake at h
  split at h
  · rename_i e k n k' m hd
    cases hi : P.info? e with
    | none => simp [tzero, hi] at h
    | some i =>
      cases hz : i.zero with
      | none => simp [tzero, hi, hz] at h
      | some z =>
        simp only [tzero, tsz, tby, hi, hz, Option.bind_some, Option.map_some] at h
        obtain ⟨h1, h2, h3, h4, h5, h6, hK⟩ := h
        rcases hK with hK | ⟨rfl, hK⟩
        · refine ⟨_, _, hK, ⟨_, rfl⟩, fun σ w ul uc r hl hc => ?_⟩
          cases hl
          cases hc
          have hr := run_make (P := P) w t e i z hd hi hz k k' n m h3 h4 h5 h6
          obtain ⟨p1, p2, p3⟩ := r.push ((List.replicate m.toNat (z.cells.toList.map .v)).flatten) (madeCells z.cells (m.toNat * i.size)) e (0, 0) (.inr rfl) (by simp [size_madeCells, h1]) (made_get h1 h2)
          exact ⟨_, _, hr, Res.of (AR.sl (off := 0) (l := ⟨w.heap.size, 0, (madeCells z.cells (m.toNat * i.size)).size⟩) (if_pos ⟨rfl, rfl⟩) (Nat.le_refl _) (fun _ => rfl) (by simp [size_madeCells])) p1 p2 (fun _ => ⟨fun B hB => .same (RowKit.Below.heap_alloc _ _ _ hB), push_keys⟩)⟩
        · refine ⟨_, _, hK, ⟨[], by simp⟩, fun σ w ul uc r hl hc => ?_⟩
          cases hl
          cases hc
          have hr := run_make (P := P) w t e i z hd hi hz k k' n n h3 h4 h5 h6
          have hg := made_get (σ := σ) (w := w) (m := n.toNat) h1 h2
          have hlen : ((List.replicate n.toNat (z.cells.toList.map AV.v)).flatten).length = n.toNat * i.size := by simp [h1]
          obtain ⟨p1, p2, p3⟩ := r.seal (madeCells z.cells (n.toNat * i.size)) e (0, 0)
          refine ⟨_, _, hr, Res.of (AR.vsl (σ := ⟨σ.ρ, fun B => σ.ro B ∨ B = w.heap.size⟩) w.heap.size 0 n.toNat (fun j => (madeCells z.cells (n.toNat * i.size)).getD j undef) (Or.inr rfl) (fun j hj => ?_) (fun j hj => p3 _ _ (hg j hj)) (Nat.le_refl _) (fun c hc => by simpa using hc)) p1 p2 (fun _ => ⟨fun B hB => .same (RowKit.Below.heap_alloc _ _ _ hB), fun _ _ _ h => .inl h⟩)⟩
          rw [cell_of_row _ _ _ (madeCells z.cells (n.toNat * i.size)) e (0, 0) (heap_alloc_new w _), Nat.zero_add]
          exact getD_lt (by rw [size_madeCells]; omega)
  · exact h.elim
end Go.Abs
