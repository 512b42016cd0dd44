/- Literals of structs, arrays, slices. -/
import Derived.Test.YtgmchiadphdlhaaDoorAbsLit
import Derived.Laws.Tables
namespace Go.Abs
set_option linter.unusedVariables false
set_option linter.unusedSimpArgs false
variable {P : Program} {G : Glob} {σ : Sig} {H : AHeap} {w : World}
def afill (place : Nat → Option (Nat × Nat)) (cells : List AV) (parts : List (Nat × AV)) (K : List AV → Prop) : Prop :=
  match parts with
  | [] => K cells
  | (i, v) :: rest => match place i, vcells v with
    | some (off, size), some c => c.length = size ∧ off + size ≤ cells.length ∧ afill place (splice cells off c) rest K
    | _, _ => False
theorem foldl_fill (off : Nat) : ∀ (l : List Value) (k : Nat) (C : Array Value), off + k + l.length ≤ C.size → ((l.zipIdx k).foldl (fun (cs : Array Value) x => cs.setIfInBounds (off + x.2) x.1) C).size = C.size ∧
    ∀ j, ((l.zipIdx k).foldl (fun (cs : Array Value) x => cs.setIfInBounds (off + x.2) x.1) C)[j]? = if off + k ≤ j ∧ j < off + k + l.length then l[j - (off + k)]? else C[j]?
  | [], k, C, _ => ⟨rfl, fun j => by rw [if_neg (by simp)]; rfl⟩
  | v :: l, k, C, h => by
    simp only [List.length_cons] at h
    obtain ⟨h1, h2⟩ := foldl_fill off l (k + 1) (C.setIfInBounds (off + k) v) (by simp; omega)
    rw [List.zipIdx_cons, List.foldl_cons]
    refine ⟨h1.trans (by simp), fun j => ?_⟩
    rw [h2]
    simp only [List.length_cons]
    by_cases hj : off + (k + 1) ≤ j ∧ j < off + (k + 1) + l.length
    · rw [if_pos hj, if_pos (by omega)]
      obtain ⟨d, rfl⟩ : ∃ d, j = off + (k + 1) + d := ⟨j - (off + (k + 1)), by omega⟩
      rw [show off + (k + 1) + d - (off + (k + 1)) = d from by omega, show off + (k + 1) + d - (off + k) = d + 1 from by omega]
      simp
    · rw [if_neg hj]
      by_cases e : j = off + k
      · subst e
        rw [if_pos (by omega)]
        simp [show off + k < C.size by omega]
      · rw [if_neg (by omega), Array.getElem?_setIfInBounds_ne (fun e' => e e'.symm)]
theorem fill_arr (off : Nat) (us C : Array Value) (h : off + us.size ≤ C.size) : (us.zipIdx.foldl (fun (cs : Array Value) (c, j) => cs.setIfInBounds (off + j) c) C).size = C.size ∧
    ∀ j, (us.zipIdx.foldl (fun (cs : Array Value) (c, j) => cs.setIfInBounds (off + j) c) C)[j]? = if off ≤ j ∧ j < off + us.size then us[j - off]? else C[j]? := by
  have e : us.zipIdx.foldl (fun (cs : Array Value) (c, j) => cs.setIfInBounds (off + j) c) C = (us.toList.zipIdx 0).foldl (fun (cs : Array Value) x => cs.setIfInBounds (off + x.2) x.1) C := by
    rw [← Array.foldl_toList]
    simp
  rw [e]
  have := foldl_fill off us.toList 0 C (by simpa using h)
  simpa using this
theorem afill_ok {place : Nat → Option (Nat × Nat)} : ∀ {parts : List (Nat × AV)} {cells : List AV} {K : List AV → Prop}, afill place cells parts K → ∃ r, K r ∧ r.length = cells.length ∧
    ∀ (σ : Sig) (w : World) (C : Array Value) (us : List (Nat × Value)), C.size = cells.length → (∀ j, j < cells.length → AR σ w (cells.getD j .any) (C.getD j undef)) → us.length = parts.length → (∀ (j : Nat) (p : Nat × AV) (u : Nat × Value), parts[j]? = some p → us[j]? = some u → u.1 = p.1 ∧ AR σ w p.2 u.2) →
      ∃ C', Instr.fill place C us = some C' ∧ C'.size = r.length ∧ ∀ j, j < r.length → AR σ w (r.getD j .any) (C'.getD j undef)
  | [], cells, K, h => ⟨cells, h, rfl, fun σ w C us h1 h2 h3 h4 => by
      have : us = [] := List.eq_nil_of_length_eq_zero (by simpa using h3)
      subst this
      exact ⟨C, rfl, h1, h2⟩⟩
  | (i, v) :: rest, cells, K, h => by
    unfold afill at h
    cases hp : place i with
    | none => simp [hp] at h
    | some os =>
      obtain ⟨off, size⟩ := os
      cases hc : vcells v with
      | none => simp [hp, hc] at h
      | some c =>
        simp only [hp, hc] at h
        obtain ⟨rfl, hfit, h⟩ := h
        obtain ⟨r, hK, hl, hr⟩ := afill_ok h
        rw [splice_length hfit] at hl
        refine ⟨r, hK, hl, fun σ w C us h1 h2 h3 h4 => ?_⟩
        cases us with
        | nil => simp at h3
        | cons u us =>
          obtain ⟨e1, e2⟩ := h4 0 _ _ rfl rfl
          obtain ⟨ui, uv⟩ := u
          simp only at e1 e2
          subst e1
          obtain ⟨c1, c2⟩ := vcells_ar hc e2
          obtain ⟨f1, f2⟩ := fill_arr off uv.cells C (by omega)
          obtain ⟨C', g1, g2⟩ := hr σ w (uv.cells.zipIdx.foldl (fun (cs : Array Value) (c, j) => cs.setIfInBounds (off + j) c) C) us (by rw [f1, h1, splice_length hfit]) (fun j hj => by
            rw [splice_length hfit] at hj
            rw [List.getD_eq_getElem?_getD, splice_get hfit, Array.getD_eq_getD_getElem?, f2, c1]
            by_cases hjr : off ≤ j ∧ j < off + c.length
            · rw [if_pos hjr, if_pos hjr, ← List.getD_eq_getElem?_getD, ← Array.getD_eq_getD_getElem?]
              exact c2 (j - off) (by omega)
            · rw [if_neg hjr, if_neg hjr, ← List.getD_eq_getElem?_getD, ← Array.getD_eq_getD_getElem?]
              exact h2 j hj) (by simpa using h3) (fun j p u hp hu => h4 (j + 1) p u (by simpa using hp) (by simpa using hu))
          refine ⟨C', ?_, g2⟩
          unfold Instr.fill
          simp only [hp]
          rw [if_neg (by simp [c1]; omega)]
          exact g1
def aBuild (P : Program) (t : TypeId) (parts : List (Nat × AV)) (K : AV → Prop) : Prop :=
  match P.underlying t with
  | some (.array _ e) => match tzero P t, tsz P e with
    | some z, some s => afill (fun i => some (i * s, s)) (z.cells.toList.map .v) parts fun cs => K (.agg cs)
    | _, _ => False
  | some (.struct fs) => match tzero P t, fs.toList.mapM (fun f => (tsz P f.type).map fun n => (f.offset, n)) with
    | some z, some places => afill (fun i => places[i]?) (z.cells.toList.map .v) parts fun cs => K (.agg cs)
    | _, _ => False
  | _ => False
theorem parts_ar {parts : Array (Nat × Operand)} {env : Operand → AV} {a : Act} (h : ∀ p ∈ parts.toList, AR σ w (env p.2) (a.eval p.2)) :
    ∀ (j : Nat) (p : Nat × AV) (u : Nat × Value), (parts.toList.map fun p => (p.1, env p.2))[j]? = some p → (parts.map fun (i, x) => (i, a.eval x)).toList[j]? = some u → u.1 = p.1 ∧ AR σ w p.2 u.2 := by
  intro j p u hp hu
  simp only [List.getElem?_map, Option.map_eq_some_iff, Array.toList_map] at hp hu
  obtain ⟨q, hq, rfl⟩ := hp
  obtain ⟨q', hq', rfl⟩ := hu
  rw [hq] at hq'
  cases hq'
  exact ⟨rfl, h q (List.mem_of_getElem? hq)⟩
theorem aBuild_ok {t : TypeId} {parts : Array (Nat × Operand)} {env : Operand → AV} {K : AV → Prop} (h : aBuild P t (parts.toList.map fun p => (p.1, env p.2)) K) :
    ∃ r, K r ∧ ∀ (σ : Sig) (w : World) (a : Act), (∀ p ∈ parts.toList, AR σ w (env p.2) (a.eval p.2)) → ∃ u, (Instr.build t (parts.map fun (i, x) => (i, a.eval x))).run P w = .ok u w ∧ AR σ w r u := by
  unfold aBuild at h
  cases hd : P.underlying t with
  | none => simp [hd] at h
  | some d =>
    cases hit : P.info? t with
    | none => cases d <;> simp [hd, tzero, hit] at h
    | some it =>
      cases hz : it.zero with
      | none => cases d <;> simp [hd, tzero, hit, hz] at h
      | some z =>
        have fin : ∀ place, (afill place (z.cells.toList.map .v) (parts.toList.map fun p => (p.1, env p.2)) fun cs => K (.agg cs)) → (∀ us, P.built t us = Instr.fill place z.cells us) →
            ∃ r, K r ∧ ∀ (σ : Sig) (w : World) (a : Act), (∀ p ∈ parts.toList, AR σ w (env p.2) (a.eval p.2)) → ∃ u, (Instr.build t (parts.map fun (i, x) => (i, a.eval x))).run P w = .ok u w ∧ AR σ w r u := by
          intro place h hb
          obtain ⟨r, hK, hl, hr⟩ := afill_ok h
          refine ⟨_, hK, fun σ w a hp => ?_⟩
          obtain ⟨C', g1, g2, g3⟩ := hr σ w z.cells (parts.map fun (i, x) => (i, a.eval x)).toList (by simp) (flat_get _) (by simp) (parts_ar hp)
          exact ⟨.agg C', run_build w t _ C' (by rw [hb]; exact g1), .agg C' g2 g3⟩
        cases d with
        | array n e =>
          cases hie : P.info? e with
          | none => simp [hd, tzero, hit, hz, tsz, hie] at h
          | some ie =>
            simp only [hd, tzero, hit, hz, tsz, hie, Option.bind_some, Option.map_some] at h
            exact fin _ h (fun us => by simp only [Program.built, hit, hd, hz, hie])
        | struct fs =>
          simp only [hd, tzero, hit, hz, Option.bind_some] at h
          have e : (fs.toList.mapM fun f => (tsz P f.type).map fun n => (f.offset, n)) = fs.toList.mapM fun f => (P.info? f.type).map fun i => (f.offset, i.size) := by
            congr 1
            funext f
            simp [tsz]
            cases P.info? f.type <;> rfl
          rw [e] at h
          cases hp : fs.toList.mapM fun f => (P.info? f.type).map fun i => (f.offset, i.size) with
          | none => simp [hp] at h
          | some places =>
            simp only [hp] at h
            exact fin _ h (fun us => by simp only [Program.built, hit, hd, hz, hp, List.getElem?_toArray])
        | _ => simp [hd] at h
def aBSlice (P : Program) (H : AHeap) (nx : Bool) (t : TypeId) (len : Nat) (parts : List (Nat × AV)) (K : AV → AHeap → Prop) : Prop :=
  match P.underlying t with
  | some (.slice e) => match tzero P e, tsz P e with
    | some z, some s => z.cells.size = s ∧ 0 < s ∧ len * s ≤ 16777216 ∧ afill (fun i => some (i * s, s)) ((List.replicate len (z.cells.toList.map .v)).flatten) parts fun cs =>
        if nx then K (.sl H.length 0 0 len len s true) (H ++ [⟨cs, 0, true, e⟩]) else K (.vsl len cs (some len)) H
    | _, _ => False
  | _ => False
theorem aBSlice_ok (G : Glob) {nx : Bool} {t : TypeId} {len : Nat} {parts : Array (Nat × Operand)} {env : Operand → AV} {K : AV → AHeap → Prop} (h : aBSlice P H nx t len (parts.toList.map fun p => (p.1, env p.2)) K) :
    ∃ r H', K r H' ∧ (∃ N, H' = H ++ N) ∧ ∀ (σ : Sig) (w : World) (a : Act), Rel G σ H w → (∀ p ∈ parts.toList, AR σ w (env p.2) (a.eval p.2)) → ∃ u w', (Instr.buildSlice t len (parts.map fun (i, x) => (i, a.eval x))).run P w = .ok u w' ∧ Res G true σ H w r H' u w' := by
  unfold aBSlice at h
  cases hd : P.underlying t with
  | none => simp [hd] at h
  | some d =>
    cases d <;> simp only [hd] at h <;> try (exact h.elim)
    rename_i e
    cases hi : P.info? e with
    | none => simp [tzero, hi] at h
    | some i =>
      cases hz : i.zero with
      | none => simp [tzero, hi, hz] at h
      | some z =>
        simp only [tzero, tsz, hi, hz, Option.bind_some, Option.map_some] at h
        obtain ⟨h1, h2, h3, h⟩ := h
        obtain ⟨r, hK, hl, hr⟩ := afill_ok h
        have hl' : r.length = len * i.size := by rw [hl]; simp [h1]
        have key : ∀ (σ : Sig) (w : World) (a : Act), Rel G σ H w → (∀ p ∈ parts.toList, AR σ w (env p.2) (a.eval p.2)) → ∃ C, (Instr.buildSlice t len (parts.map fun (i, x) => (i, a.eval x))).run P w = .ok (.slice (some ⟨w.heap.size, 0, none⟩) len len) (w.alloc (.cells C e)) ∧
            C.size = r.length ∧ ∀ j, j < r.length → AR σ w (r.getD j .any) (C.getD j undef) := by
          intro σ w a rel hp
          obtain ⟨C', g1, g2, g3⟩ := hr σ w (madeCells z.cells (len * i.size)) (parts.map fun (i, x) => (i, a.eval x)).toList (by simp [size_madeCells, h1]) (made_get h1 h2) (by simp) (parts_ar hp)
          refine ⟨C', ?_, g2, g3⟩
          have n1 : ¬ (16777216 < len * i.size) := by omega
          by_cases h0 : len * i.size = 0
          · have g1' : Instr.fill (fun k => some (k * i.size, i.size)) ((Array.range (len * i.size)).map ((#[] : Array Value)[· % 0]!)) (parts.map fun (k, x) => (k, a.eval x)).toList = some C' := by
              rw [← g1]
              congr 1
              rw [h0]
              simp [madeCells]
            rw [h0] at g1'
            simp only [Instr.buildSlice, run_underlying hd, sizeOf, typeInfo, hi, Sem.run_bind, Sem.run_pure, Result.andThen_ok, run_program, h0, if_true, Nat.reducePow, gt_iff_lt, Nat.not_lt_zero, if_false, Array.size_empty, g1', newRow, run_newObj]
            rfl
          · have g1' : Instr.fill (fun k => some (k * i.size, i.size)) ((Array.range (len * i.size)).map (z.cells[· % z.cells.size]!)) (parts.map fun (k, x) => (k, a.eval x)).toList = some C' := g1
            simp only [Instr.buildSlice, run_underlying hd, sizeOf, typeInfo, zeroValue, hi, hz, Sem.run_bind, Sem.run_pure, Result.andThen_ok, run_program, h0, if_false, Nat.reducePow, gt_iff_lt, n1, g1', newRow, run_newObj]
            rfl
        cases nx with
        | true =>
          rw [if_pos rfl] at hK
          refine ⟨_, _, hK, ⟨_, rfl⟩, fun σ w a rel hp => ?_⟩
          obtain ⟨C, k1, k2, k3⟩ := key σ w a rel hp
          obtain ⟨p1, p2, p3⟩ := rel.push r C e (0, 0) (.inr rfl) (by omega) k3
          exact ⟨_, _, k1, Res.of (AR.sl (off := 0) (l := ⟨w.heap.size, 0, C.size⟩) (if_pos ⟨rfl, rfl⟩) (Nat.le_refl _) (fun _ => rfl) (by simp; omega)) p1 p2 (fun _ => ⟨fun B hB => .same (RowKit.Below.heap_alloc _ _ _ hB), push_keys⟩)⟩
        | false =>
          rw [if_neg (by decide)] at hK
          refine ⟨_, _, hK, ⟨[], by simp⟩, fun σ w a rel hp => ?_⟩
          obtain ⟨C, k1, k2, k3⟩ := key σ w a rel hp
          obtain ⟨p1, p2, p3⟩ := rel.seal C e (0, 0)
          refine ⟨_, _, k1, Res.of (AR.vsl (σ := ⟨σ.ρ, fun B => σ.ro B ∨ B = w.heap.size⟩) w.heap.size 0 len (fun j => C.getD j undef) (Or.inr rfl) (fun j hj => ?_) (fun j hj => p3 _ _ (k3 j hj)) (Nat.le_refl _) (fun c hc => by simpa using hc)) p1 p2 (fun _ => ⟨fun B hB => .same (RowKit.Below.heap_alloc _ _ _ hB), fun _ _ _ h => .inl h⟩)⟩
          rw [cell_of_row _ _ _ C e (0, 0) (heap_alloc_new w _), Nat.zero_add]
          exact getD_lt (by omega)
end Go.Abs
