/- The operations, one by one. -/
import Derived.Test.YtgmchiadphdlhaaDoorAbsOps
namespace Go.Abs
set_option linter.unusedVariables false
set_option linter.unusedSimpArgs false
variable {P : Program} {G : Glob} {σ : Sig} {H : AHeap} {w : World}
def tsz (P : Program) (t : TypeId) : Option Nat := (P.info? t).map (·.size)
def tby (P : Program) (t : TypeId) : Option Nat := (P.info? t).map (·.bytes)
def tzero (P : Program) (t : TypeId) : Option Value := (P.info? t).bind (·.zero)
/-- A value's cells. -/
def vcells : AV → Option (List AV)
  | .agg cs => some cs
  | .v (.agg us) => some (us.toList.map .v)
  | .any | .tup _ | .v (.tuple _) => none
  | x => some [x]
theorem vcells_ar {x : AV} {cs : List AV} {u : Value} (hc : vcells x = some cs) (h : AR σ w x u) : u.cells.size = cs.length ∧ ∀ j, j < cs.length → AR σ w (cs.getD j .any) (u.cells.getD j undef) := by
  have one : ∀ {y : AV} {z : Value}, AR σ w y z → some [y] = some cs → z.cells = #[z] → z.cells.size = cs.length ∧ ∀ j, j < cs.length → AR σ w (cs.getD j .any) (z.cells.getD j undef) := by
    intro y z h1 h2 h3
    cases h2
    rw [h3]
    refine ⟨rfl, fun j hj => ?_⟩
    have : j = 0 := by simpa using hj
    subst this
    exact h1
  cases h with
  | any u => simp [vcells] at hc
  | v =>
    cases u with
    | agg us =>
      simp only [vcells, Option.some.injEq] at hc
      subst hc
      refine ⟨by simp [Value.cells], fun j hj => ?_⟩
      simp only [List.length_map, Array.length_toList] at hj
      simp only [Value.cells, List.getD_eq_getElem?_getD, List.getElem?_map, Array.getElem?_toList, Array.getElem?_eq_getElem hj, Option.map_some, Option.getD_some, Array.getD_eq_getD_getElem?]
      exact .v _
    | tuple us => simp [vcells] at hc
    | _ => exact one (.v _) hc rfl
  | ptr h => exact one (.ptr h) hc rfl
  | sl h h1 h2 h3 => exact one (.sl h h1 h2 h3) hc rfl
  | sl0 A => exact one (.sl0 A) hc rfl
  | vptr B o u hr hm ha => exact one (.vptr B o u hr hm ha) hc rfl
  | vsl B o c' u hr hm ha hl hx => exact one (.vsl B o c' u hr hm ha hl hx) hc rfl
  | vsl0 A c' hx => exact one (.vsl0 A c' hx) hc rfl
  | agg us hl ha =>
    simp only [vcells, Option.some.injEq] at hc
    subst hc
    exact ⟨hl, ha⟩
  | tup us hl ha => simp [vcells] at hc
  | fn us hl ha => exact one (.fn us hl ha) hc rfl
  | ifc h => exact one (.ifc h) hc rfl
  | ub b => exact one (.ub b) hc rfl
  | bsl0 => exact one .bsl0 hc rfl
  | bsl h h0 h1 hl => exact one (.bsl h h0 h1 hl) hc rfl
  | usd0 p => exact one (.usd0 p) hc rfl
  | usd h => exact one (.usd h) hc rfl
  | bad0 => exact one .bad0 hc rfl
  | bad h => exact one (.bad h) hc rfl
/-- Cells lie in memory. -/
def Mem (σ : Sig) (w : World) (B o : Nat) (cs : List AV) : Prop := ∀ j, j < cs.length → ∃ u, w.cell? ⟨B, o + j, none⟩ = some u ∧ AR σ w (cs.getD j .any) u
theorem Rel.mem (r : Rel G σ H w) {b : Nat} {k : Blk} {l : Loc} (hk : H[b]? = some k) (hlv : k.live = true) (hl : σ.ρ b k.ver = some l) : Mem σ w l.B l.base k.cells := by
  obtain ⟨C, fr, h1, h2, h3, h4, h5⟩ := r.blk b k l hk hlv hl
  intro j hj
  obtain ⟨u, a1, a2⟩ := h5 j hj
  exact ⟨u, by rw [cell_of_row w l.B _ C k.elem fr h1]; exact a1, a2⟩
theorem Mem.of_fun {B o : Nat} {cs : List AV} {u : Nat → Value} (hm : ∀ j, j < cs.length → w.cell? ⟨B, o + j, none⟩ = some (u j)) (ha : ∀ j, j < cs.length → AR σ w (cs.getD j .any) (u j)) : Mem σ w B o cs :=
  fun j hj => ⟨u j, hm j hj, ha j hj⟩
/-- What is read of cells. -/
def rdP (P : Program) (t : TypeId) (cs : List AV) (off : Nat) (K : AV → Prop) : Prop :=
  match P.underlying t with
  | some (.struct _) | some (.array _ _) => match tsz P t with
    | some n => off + n ≤ cs.length ∧ K (.agg ((cs.drop off).take n))
    | none => False
  | some _ => off < cs.length ∧ K (cs.getD off .any)
  | none => False
theorem run_loadCells_mem {B o : Nat} {cs : List AV} (h : Mem σ w B o cs) (off n : Nat) (hn : off + n ≤ cs.length) :
    ∃ us : Array Value, (loadCells ⟨B, o + off, none⟩ n).run P w = .ok us w ∧ us.size = n ∧ ∀ j, j < n → AR σ w (cs.getD (off + j) .any) (us.getD j undef) := by
  have hch : ∀ j, j < n → ∃ u, w.cell? ⟨B, o + off + j, none⟩ = some u ∧ AR σ w (cs.getD (off + j) .any) u := fun j hj => by
    obtain ⟨u, h1, h2⟩ := h (off + j) (by omega)
    exact ⟨u, by rw [Nat.add_assoc]; exact h1, h2⟩
  refine ⟨((List.range n).map fun j => (w.cell? ⟨B, o + off + j, none⟩).getD undef).toArray, ?_, by simp, fun j hj => ?_⟩
  · have := run_loadCells_list (P := P) w ⟨B, o + off, none⟩ ((List.range n).map fun j => (w.cell? ⟨B, o + off + j, none⟩).getD undef) (fun j v hv => by
      obtain ⟨hj, rfl⟩ := List.getElem?_eq_some_iff.1 hv
      simp only [List.length_map, List.length_range] at hj
      obtain ⟨u, h1, _⟩ := hch j hj
      rw [Addr.add_lit]
      simp [h1])
    simpa using this
  · obtain ⟨u, h1, h2⟩ := hch j hj
    simpa [hj, h1] using h2
theorem run_loadVar_mem {B o : Nat} {cs : List AV} (h : Mem σ w B o cs) {t : TypeId} {off : Nat} {K : AV → Prop} (hr : rdP P t cs off K) :
    ∃ r u, K r ∧ (loadVar t ⟨B, o + off, none⟩).run P w = .ok u w ∧ AR σ w r u := by
  unfold rdP at hr
  have plain : ∀ d, P.underlying t = some d → (match d with | .struct _ | .array _ _ => true | _ => false) = false → off < cs.length ∧ K (cs.getD off .any) →
      ∃ r u, K r ∧ (loadVar t ⟨B, o + off, none⟩).run P w = .ok u w ∧ AR σ w r u := by
    intro d hd hf ⟨h1, h2⟩
    obtain ⟨u, a1, a2⟩ := h off h1
    refine ⟨_, u, h2, ?_, a2⟩
    cases d <;> first | (cases hf; done) | simp [loadVar, isAgg, run_underlying hd, a1]
  have rows : ∀ d, P.underlying t = some d → (match d with | .struct _ | .array _ _ => true | _ => false) = true → (match tsz P t with | some n => off + n ≤ cs.length ∧ K (.agg ((cs.drop off).take n)) | none => False) →
      ∃ r u, K r ∧ (loadVar t ⟨B, o + off, none⟩).run P w = .ok u w ∧ AR σ w r u := by
    intro d hd hf hr
    unfold tsz at hr
    cases hi : P.info? t with
    | none => simp [hi] at hr
    | some i =>
      simp only [hi, Option.map_some] at hr
      obtain ⟨us, b1, b2, b3⟩ := run_loadCells_mem (P := P) h off i.size hr.1
      refine ⟨_, .agg us, hr.2, ?_, .agg us (by rw [b2, List.length_take, List.length_drop]; omega) (fun j hj => ?_)⟩
      · cases d <;> first | (cases hf; done) | simp [loadVar, isAgg, run_underlying hd, sizeOf, typeInfo, hi, b1]
      · rw [List.length_take, List.length_drop] at hj
        have := b3 j (by omega)
        rwa [List.getD_eq_getElem?_getD, List.getElem?_take, if_pos (by omega), List.getElem?_drop, ← List.getD_eq_getElem?_getD]
  cases hd : P.underlying t with
  | none => simp [hd] at hr
  | some d =>
    cases d <;> simp only [hd] at hr <;> first | exact rows _ hd rfl hr | exact plain _ hd rfl hr
/-- cs, written into a row from off on. -/
def splice (cs : List AV) (off : Nat) (c : List AV) : List AV := cs.take off ++ c ++ cs.drop (off + c.length)
theorem splice_length {cs c : List AV} {off : Nat} (h : off + c.length ≤ cs.length) : (splice cs off c).length = cs.length := by
  simp [splice]
  omega
theorem splice_get {cs c : List AV} {off : Nat} (h : off + c.length ≤ cs.length) (j : Nat) : (splice cs off c)[j]? = if off ≤ j ∧ j < off + c.length then c[j - off]? else cs[j]? := by
  unfold splice
  rw [List.getElem?_append, List.getElem?_append]
  simp only [List.length_append, List.length_take, Nat.min_eq_left (show off ≤ cs.length by omega)]
  by_cases h1 : j < off
  · rw [if_pos (by omega), if_pos h1, if_neg (by omega), List.getElem?_take, if_pos h1]
  · by_cases h2 : j < off + c.length
    · rw [if_pos h2, if_neg h1, if_pos (by omega)]
    · rw [if_neg h2, if_neg (by omega), List.getElem?_drop]
      congr 1
      omega
theorem setCell_blk (w : World) (B o : Nat) (v : Value) (C : Array Value) (T : TypeId) (fr : Nat × Nat) (h : w.heap[B]? = some (.cells C T fr)) : (w.setCell ⟨B, o, none⟩ v).heap[B]? = some (.cells (C.setIfInBounds o v) T fr) := by
  simp [World.setCell, Array.getElem?_modify, h]
theorem run_storeCells_blk {B o : Nat} {T : TypeId} {fr : Nat × Nat} : ∀ (vs : List Value) (i : Nat) (C : Array Value) (w : World), w.heap[B]? = some (.cells C T fr) → o + i + vs.length ≤ C.size → (C.size ≤ fr.1 ∨ fr.1 = fr.2) → (∀ v ∈ vs, v.oneCell' = true) →
    ∃ (w' : World) (C' : Array Value), (storeCells ⟨B, o, none⟩ vs i).run P w = .ok () w' ∧ w'.heap[B]? = some (.cells C' T fr) ∧ C'.size = C.size ∧
      (∀ j, C'[j]? = if o + i ≤ j ∧ j < o + i + vs.length then vs[j - (o + i)]? else C[j]?) ∧ (∀ B', B' ≠ B → w'.heap[B']? = w.heap[B']?) ∧ w'.heap.size = w.heap.size ∧ w'.os = w.os ∧ w'.tape = w.tape ∧ w'.output = w.output
  | [], i, C, w, h, _, _, _ => ⟨w, C, rfl, h, rfl, fun j => by rw [if_neg (by simp)], fun _ _ => rfl, rfl, rfl, rfl, rfl⟩
  | v :: vs, i, C, w, h, hl, hf, h1 => by
    simp only [List.length_cons] at hl
    have hcell : w.cell? ⟨B, o + i, none⟩ = C[o + i]? := cell_of_row w B (o + i) C T fr h
    have hlt : o + i < C.size := by omega
    have hfz : w.frozen? ⟨B, o + i, none⟩ = false := by
      unfold World.frozen?
      simp only [h]
      simp
      omega
    have hset := setCell_blk w B (o + i) v C T fr h
    obtain ⟨w', C', a1, a2, a3, a4, a5, a6, a7, a8, a9⟩ := run_storeCells_blk (o := o) vs (i + 1) (C.setIfInBounds (o + i) v) (w.setCell ⟨B, o + i, none⟩ v) hset (by simp; omega) (by simpa using hf) (fun u hu => h1 u (by simp [hu]))
    refine ⟨w', C', ?_, a2, by simpa using a3, fun j => ?_, fun B' hB => (a5 B' hB).trans (RowKit.Below.heap_setCell _ _ _ _ hB), a6.trans (by simp [World.setCell]), a7, a8, a9⟩
    · have hrun : (store ⟨B, o + i, none⟩ v).run P w = .ok () (w.setCell ⟨B, o + i, none⟩ v) := by
        rw [run_store P w _ v .plain (h1 v (by simp)), hcell, Array.getElem?_eq_getElem hlt]
        simp [hfz]
      simp only [storeCells, Addr.add_lit, Sem.run_bind, hrun, Result.andThen_ok]
      exact a1
    · rw [a4]
      simp only [List.length_cons]
      by_cases hj : o + (i + 1) ≤ j ∧ j < o + (i + 1) + vs.length
      · rw [if_pos hj, if_pos (by omega)]
        obtain ⟨d, rfl⟩ : ∃ d, j = o + (i + 1) + d := ⟨j - (o + (i + 1)), by omega⟩
        rw [show o + (i + 1) + d - (o + (i + 1)) = d from by omega, show o + (i + 1) + d - (o + i) = d + 1 from by omega]
        simp
      · rw [if_neg hj]
        by_cases e : j = o + i
        · subst e
          rw [if_pos (by omega)]
          simp [hlt]
        · rw [if_neg (by omega), Array.getElem?_setIfInBounds_ne (fun e' => e e'.symm)]
/-- A row of cells of a block is written. -/
theorem Rel.store (r : Rel G σ H w) {b : Nat} {k : Blk} {l : Loc} (hk : H[b]? = some k) (hlv : k.live = true) (hl : σ.ρ b k.ver = some l) (off : Nat) (c : List AV) (us : List Value) (hlen : us.length = c.length) (hfit : off + c.length ≤ k.cells.length)
    (hone : ∀ u ∈ us, u.oneCell' = true) (har : ∀ j, j < c.length → AR σ w (c.getD j .any) (us.getD j undef)) :
    ∃ w', (storeCells ⟨l.B, l.base + off, none⟩ us).run P w = .ok () w' ∧ Rel G σ (H.set b { k with cells := splice k.cells off c }) w' ∧ Ext σ H w σ (H.set b { k with cells := splice k.cells off c }) w' ∧ (∀ x u, AR σ w x u → AR σ w' x u) := by
  obtain ⟨C, fr, h1, h2, h3, h4, h5⟩ := r.blk b k l hk hlv hl
  obtain ⟨w', C', a1, a2, a3, a4, a5, a6, a7, a8, a9⟩ := run_storeCells_blk (P := P) (o := l.base + off) us 0 C w h1 (by omega) (by rw [h2]; exact h4) hone
  refine ⟨w', a1, r.upd hk hlv hl (splice k.cells off c) a2 (a3.trans h2) (by rw [splice_length hfit]; exact h3) h4 (fun j hj => ?_) a5 a6 a7 a8 a9⟩
  rw [splice_length hfit] at hj
  rw [a4, List.getD_eq_getElem?_getD, splice_get hfit]
  by_cases hjr : off ≤ j ∧ j < off + c.length
  · rw [if_pos (by omega), if_pos hjr]
    have hlt : j - off < us.length := by omega
    refine ⟨us[j - off], by rw [show l.base + j - (l.base + off + 0) = j - off from by omega]; simp [hlt], ?_⟩
    have := har (j - off) (by omega)
    rw [List.getD_eq_getElem?_getD, List.getD_eq_getElem?_getD, List.getElem?_eq_getElem hlt] at this
    exact this
  · rw [if_neg (by omega), if_neg hjr, ← List.getD_eq_getElem?_getD]
    exact h5 j hj
theorem ones_of {c : List AV} {us : List Value} (h1 : c.all AV.one = true) (hlen : us.length = c.length) (har : ∀ j, j < c.length → AR σ w (c.getD j .any) (us.getD j undef)) : ∀ u ∈ us, u.oneCell' = true := by
  intro u hu
  obtain ⟨j, hj, rfl⟩ := List.getElem_of_mem hu
  have := har j (by omega)
  rw [List.getD_eq_getElem?_getD, List.getD_eq_getElem?_getD, List.getElem?_eq_getElem hj, List.getElem?_eq_getElem (show j < c.length by omega)] at this
  exact this.one (List.all_eq_true.1 h1 _ (List.getElem_mem _))
/-- What an operation comes to. -/
def OpOk (P : Program) (G : Glob) (q : Bool) (o : Oper) (env : Operand → AV) (H : AHeap) (r : AV) (H' : AHeap) : Prop :=
  ∀ (σ : Sig) (w : World) (a : Act) (K : Act → World → Prop) (Q : Exit → Act → World → Prop), (∀ x, x ∈ o.op.operands → AR σ w (env x) (a.eval x)) → Rel G σ H w →
    (∀ u w', Res G q σ H w r H' u w' → K (a.put o.dst u) w') → o.wp P a w K Q
/-- By a run. -/
theorem OpOk.run {q : Bool} {o : Oper} {env : Operand → AV} {r : AV} {H' : AHeap} (h : ∀ (σ : Sig) (w : World) (a : Act), (∀ x, x ∈ o.op.operands → AR σ w (env x) (a.eval x)) → Rel G σ H w →
    ∃ u w', ((execOp a.eval o).run P w = .ok (.value u) w' ∨ ((execOp a.eval o).run P w = .ok .skip w' ∧ u = undef)) ∧ Res G q σ H w r H' u w') : OpOk P G q o env H r H' := by
  intro σ w a K Q hx r hK
  obtain ⟨u, w', h1, h2⟩ := h σ w a hx r
  unfold Oper.wp
  rcases h1 with h1 | ⟨h1, rfl⟩
  · rw [h1]
    exact hK u w' h2
  · rw [h1]
    exact hK undef w' h2
def Callable (P : Program) (n : FuncId) : Prop := ∃ fn, P.funcs[n]? = some fn ∧ (fn.name == "runtime.NumGoroutine") = false ∧ fn.body.isSome = true
/-- What a call comes to. -/
def ACall (P : Program) (G : Glob) (q : Bool) (n : FuncId) (args : List AV) (H : AHeap) (r : AV) (H' : AHeap) : Prop :=
  Callable P n ∧ ∀ (σ : Sig) (w : World) (us : Array Value), us.size = args.length → (∀ j, j < args.length → AR σ w (args.getD j .any) (us.getD j undef)) → Rel G σ H w →
    Calls P n us w fun e w' => ∃ u, e = .returned u ∧ Res G q σ H w r H' u w'
/-- What a call of a function without a body comes to: it turns nothing. -/
def XCall (P : Program) (G : Glob) (n : FuncId) (args : List AV) (r : AV) : Prop :=
  ∀ (σ : Sig) (w : World) (us : Array Value), us.size = args.length → (∀ j, j < args.length → AR σ w (args.getD j .any) (us.getD j undef)) → ∃ u, (callFunc n us).run P w = .ok (.value u) w ∧ AR σ w r u
abbrev ACallX (P : Program) (G : Glob) (q : Bool) (n : FuncId) (args : List AV) (H : AHeap) (r : AV) (H' : AHeap) : Prop := ACall P G q n args H r H' ∨ (XCall P G n args r ∧ H' = H)
end Go.Abs
