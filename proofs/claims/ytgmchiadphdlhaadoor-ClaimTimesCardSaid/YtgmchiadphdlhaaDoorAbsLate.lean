/- Rows of operations in which some that turn nothing come late: behind a loud one, with no order to it. -/
import Derived.Test.YtgmchiadphdlhaaDoorAbsFz
namespace Go.Abs
set_option linter.unusedVariables false
set_option linter.unusedSimpArgs false
variable {P : Program} {G : Glob} {σ : Sig} {H : AHeap} {w : World}
/-- What turned nothing that is looked at. -/
theorem lift0 (hG : GN G) {σ1 : Sig} {w' : World} {ro : Nat → Prop} (a2 : Rel G σ1 [] w') (a3 : Ext ⟨fun _ _ => none, ro⟩ [] w σ1 [] w') {σ : Sig} {H : AHeap} (hr : σ.ro = ro) (rel : Rel G σ H w) :
    Rel G ⟨σ.ρ, σ1.ro⟩ H w' ∧ Ext σ H w ⟨σ.ρ, σ1.ro⟩ H w' ∧ (∀ x v, AR σ w x v → AR ⟨σ.ρ, σ1.ro⟩ w' x v) := by
  subst hr
  have hheap : ∀ B, B < w.heap.size → w'.heap[B]? = w.heap[B]? := fun B hB => a3.frame B hB noImg
  have hro : ∀ B, σ.ro B → σ1.ro B := a3.ro
  have hm : ∀ x v, AR σ w x v → AR ⟨σ.ρ, σ1.ro⟩ w' x v := fun x v h => AR.mono (σ := σ) (σ' := ⟨σ.ρ, σ1.ro⟩) (fun _ _ _ h => h) hro (fun B hB => hheap B (rel.roLt B hB)) h
  have hnew : ∀ B, σ1.ro B → σ.ro B ∨ w.heap.size ≤ B := fun B hB => by
    rcases a3.roNew B hB with h | h | h
    · exact .inl h
    · exact .inr h
    · exact absurd h noImg
  refine ⟨⟨fun b k l g1 g2 g3 => ?_, rel.inj, fun b k l g1 g2 g3 g4 => ?_, a2.roLt, rel.fresh, fun g => hm _ _ (rel.glob g), rel.base0⟩,
    ⟨a3.os, a3.tape, a3.output, a3.size, fun _ _ _ h => h, hro, fun B hB _ => hheap B hB, fun _ _ _ h => .inl h, fun b k' l g1 g2 g3 => ⟨k', g1, g2, rfl⟩, fun B hB => (hnew B hB).imp id .inl, Nat.le_refl _⟩, hm⟩
  · obtain ⟨C, fr, c1, c2, c3, c4, c5⟩ := rel.blk b k l g1 g2 g3
    refine ⟨C, fr, by rw [hheap _ (Array.getElem?_eq_some_iff.1 c1).1]; exact c1, c2, c3, c4, fun j hj => ?_⟩
    obtain ⟨v, e1, e2⟩ := c5 j hj
    exact ⟨v, e1, hm _ _ e2⟩
  · rcases hnew _ g4 with h | h
    · exact rel.apart b k l g1 g2 g3 h
    · have := rel.lt g1 g2 g3
      omega
/-- An operation of the tail. -/
def StepF (P : Program) (G : Glob) (ops : Array Oper) (o : Oper) (t t' : List AV) (H H' : AHeap) : Prop :=
  ∃ v, t' = tput t o.dst v ∧ ∃ wd : Bool, (∀ (σ : Sig) (w : World) (a : Act), (∀ g want d, o.guard = some (g, want) → (ops[g]?).bind (·.dst) = some d → AR σ w (t.getD d .any) (a.tmps.getD d undef) ∧ (d < a.tmps.size ∨ t.getD d .any = .any)) → Region.wanted o (yielded ops a.tmps) = wd) ∧
    if wd then OpOk P G false o (aenv G t) H v H' else v = .v undef ∧ H' = H
/-- A late operation: what it comes to does not depend on when. -/
def Free (P : Program) (G : Glob) (t : List AV) (o : Oper) : Prop :=
  ∃ v, NR v ∧ (∀ x, x ∈ o.op.operands → NR (aenv G t x)) ∧ OpOk P G true o (aenv G t) [] v [] ∧ ∀ d, o.dst = some d → t.getD d .any = v
/-- The same at one view of memory. -/
def FreeAt (P : Program) (G : Glob) (t : List AV) (o : Oper) (H : AHeap) : Prop :=
  ∃ v, OpOk P G true o (aenv G t) H v H ∧ ∀ d, o.dst = some d → t.getD d .any = v
theorem Free.at_ (hG : GN G) {t : List AV} {o : Oper} (h : Free P G t o) (H : AHeap) : FreeAt P G t o H := by
  obtain ⟨v, hv, hn, hop, hd⟩ := h
  refine ⟨v, fun σ w a K Q hx rel hK => ?_, hd⟩
  refine hop ⟨fun _ _ => none, σ.ro⟩ w a K Q (fun x hxx => hn x hxx σ w _ (hx x hxx)) (rel.none hG) fun u w' ⟨σ1, f1, f2, f3, f4⟩ => hK u w' ?_
  obtain ⟨r1, x1, _⟩ := lift0 hG f2 f3 rfl rel
  exact ⟨⟨σ.ρ, σ1.ro⟩, hv.into f1 (fun _ h => h), r1, x1, fun _ => ⟨(f4 rfl).heap, fun _ _ _ h => .inl h⟩⟩
/-- What a quiet operation left, for all that stood there. -/
theorem liftQ {σm σ1 : Sig} {H1 : AHeap} {w' : World} (rm : Rel G σm H1 w) (a2 : Rel G σ1 H1 w') (a3 : Ext σm H1 w σ1 H1 w') (a4 : Quiet σm H1 w σ1 w') {σ : Sig} {H : AHeap}
    (hρ : ∀ b ver l, σm.ρ b ver = some l → σ.ρ b ver = some l) (hr : σ.ro = σm.ro) (hI : ∀ B, Img σm H1 B → Img σ H B) (rel : Rel G σ H w) :
    Rel G ⟨σ.ρ, σ1.ro⟩ H w' ∧ Ext σ H w ⟨σ.ρ, σ1.ro⟩ H w' ∧ (∀ x v, AR σ w x v → AR ⟨σ.ρ, σ1.ro⟩ w' x v) ∧ (∀ x v, AR σ1 w' x v → AR ⟨σ.ρ, σ1.ro⟩ w' x v) := by
  have hro : ∀ B, σ.ro B → σ1.ro B := fun B hB => a3.ro B (by rw [← hr]; exact hB)
  have hroH : ∀ B, σ.ro B → w'.heap[B]? = w.heap[B]? := fun B hB => rm.roKept a3 B (by rw [← hr]; exact hB)
  have hm : ∀ x v, AR σ w x v → AR ⟨σ.ρ, σ1.ro⟩ w' x v := fun x v h => AR.mono (σ := σ) (σ' := ⟨σ.ρ, σ1.ro⟩) (fun _ _ _ h => h) hro hroH h
  have hkey : ∀ b ver l, σ1.ρ b ver = some l → σ.ρ b ver = some l := fun b ver l h => by
    rcases a4.keys b ver l h with h' | h'
    · exact hρ _ _ _ h'
    · obtain ⟨k, hk, _⟩ := a2.fresh b ver l h
      have := (List.getElem?_eq_some_iff.1 hk).1
      omega
  have hnew : ∀ B, σ1.ro B → σ.ro B ∨ w.heap.size ≤ B := fun B hB => by
    rcases a3.roNew B hB with h | h | ⟨b, k, l, g1, g2, g3, g4⟩
    · exact .inl (by rw [hr]; exact h)
    · exact .inr h
    · exact absurd (g4 ▸ hB) (a2.apart b k l g1 g2 (a3.ρ _ _ _ g3))
  refine ⟨⟨fun b k l g1 g2 g3 => ?_, rel.inj, fun b k l g1 g2 g3 g4 => ?_, a2.roLt, rel.fresh, fun g => hm _ _ (rel.glob g), rel.base0⟩,
    ⟨a3.os, a3.tape, a3.output, a3.size, fun _ _ _ h => h, hro, fun B hB hn => a3.frame B hB fun h => hn (hI B h), fun _ _ _ h => .inl h, fun b k' l g1 g2 g3 => ⟨k', g1, g2, rfl⟩, fun B hB => (hnew B hB).imp id .inl, Nat.le_refl _⟩,
    hm, fun x v h => AR.mono (σ := σ1) (σ' := ⟨σ.ρ, σ1.ro⟩) (w := w') (w' := w') hkey (fun _ h => h) (fun _ _ => rfl) h⟩
  · obtain ⟨C, fr, c1, c2, c3, c4, c5⟩ := rel.blk b k l g1 g2 g3
    obtain ⟨fr', c1', c4'⟩ : ∃ fr', w'.heap[l.B]? = some (.cells C k.elem fr') ∧ (l.lim ≤ fr'.1 ∨ fr'.1 = fr'.2) := by
      have hal := a4.heap _ (Array.getElem?_eq_some_iff.1 c1).1
      rw [c1] at hal
      generalize hw' : w'.heap[l.B]? = ob at hal
      cases hal with
      | same h => exact ⟨fr, h, c4⟩
      | marked fr fr' h => exact ⟨fr', rfl, by rw [← c2] at c4 ⊢; exact h c4⟩
    refine ⟨C, fr', c1', c2, c3, c4', fun j hj => ?_⟩
    obtain ⟨v, e1, e2⟩ := c5 j hj
    exact ⟨v, e1, hm _ _ e2⟩
  · rcases hnew _ g4 with h | h
    · exact rel.apart b k l g1 g2 g3 h
    · have := rel.lt g1 g2 g3
      omega
section
variable {L : Nat → Bool} {ops : Array Oper} {m : Nat} {T : Nat → List AV} {Hh : Nat → AHeap} {V : Nat → AV} {σ0 : Sig} {w0 : World} {Q : Exit → Act → World → Prop}
theorem DInv.free (ord : Ord ops m L) (hst : ∀ i, i < m → ∀ o, ops[i]? = some o → StepAt P G ops o (T i) (T (i + 1)) (Hh i) (Hh (i + 1)) (V i)) {listed : Array Bool} {a : Act} (d : DInv G L ops m T Hh V σ0 w0 σ listed a w) {l : Nat} {o : Oper} (hl : L l = true) (ho : ops[l]? = some o) (hrd : ∀ e ∈ o.after, Region.binds .any e = true → listed.getD e.on false = true)
    {v : AV} {u : Value} {σ1 : Sig} {w' : World} (a1 : AR σ1 w' v u) (a2 : Rel G σ1 (Hh 0) w') (a3 : Ext (rs σ (Hh 0).length) (Hh 0) w σ1 (Hh 0) w') (a4 : Quiet (rs σ (Hh 0).length) (Hh 0) w σ1 w') (hT : ∀ d, o.dst = some d → (T 0).getD d .any = v) :
    DInv G L ops m T Hh V σ0 w0 ⟨σ.ρ, σ1.ro⟩ (listed.setIfInBounds l true) (a.put o.dst u) w' := by
  have hil : l < listed.size := by
    rw [d.lsize]
    exact (Array.getElem?_eq_some_iff.1 ho).1
  have hml : m ≤ l := (ord.lge l o hl ho).1
  have lf : ∀ i, i ≤ m → Rel G (rs ⟨σ.ρ, σ1.ro⟩ (Hh i).length) (Hh i) w' ∧ Ext (rs σ (Hh i).length) (Hh i) w (rs ⟨σ.ρ, σ1.ro⟩ (Hh i).length) (Hh i) w' ∧ (∀ x v, AR (rs σ (Hh i).length) w x v → AR (rs ⟨σ.ρ, σ1.ro⟩ (Hh i).length) w' x v) ∧ (∀ x v, AR σ1 w' x v → AR (rs ⟨σ.ρ, σ1.ro⟩ (Hh i).length) w' x v) := fun i hi => by
    obtain ⟨N, hN⟩ := run_heap hst ord.le 0 i (Nat.zero_le _) hi
    have hlen : (Hh 0).length ≤ (Hh i).length := by rw [hN]; simp
    exact liftQ (σ := rs σ (Hh i).length) (d.rel 0 (Nat.zero_le _)) a2 a3 a4 (fun b ver l h => rs_of (Nat.lt_of_lt_of_le (rs_some h).1 hlen) (rs_some h).2) rfl (fun B ⟨b, k, l, g1, g2, g3, g4⟩ => ⟨b, k, l, by rw [hN, List.getElem?_append_left (List.getElem?_eq_some_iff.1 g1).1]; exact g1, g2, rs_of (Nat.lt_of_lt_of_le (rs_some g3).1 hlen) (rs_some g3).2, g4⟩) (d.rel i hi)
  have mono : ∀ i, i ≤ m → ∀ x v, AR (rs σ (Hh i).length) w x v → AR (rs ⟨σ.ρ, σ1.ro⟩ (Hh i).length) w' x v := fun i hi => (lf i hi).2.2.1
  refine ⟨(Act.put_def _ _ _).trans d.defers, (Act.put_size _ _ _).trans d.size, by simpa using d.lsize, fun k ok hk hok e he hb => ?_, fun k hk hLk => ?_, fun s hs hall hL => ?_, fun i oi s hi hoi hdi hs hli => ?_, fun i hi => (lf i hi).1, d.ext.trans (lf m (Nat.le_refl _)).2.1, fun i hi hli b ver hb1 hb2 => ?_⟩
  · rw [set_get hil] at hk ⊢
    by_cases hik : l = k
    · subst hik
      rw [ho] at hok
      cases hok
      split
      · rfl
      · exact hrd e he hb
    · rw [if_neg hik] at hk
      split
      · rfl
      · exact d.closed k ok hk hok e he hb
  · rw [set_get hil, if_neg (fun e => by rw [← e, hl] at hLk; cases hLk)]
    exact d.tailUn k hk hLk
  · rw [put_getD _ _ _ _ (by rw [d.size]; exact hs)]
    by_cases hd : o.dst = some s
    · rw [if_pos hd, hT s hd]
      exact (lf 0 (Nat.zero_le _)).2.2.2 _ _ a1
    · rw [if_neg hd]
      refine mono 0 (Nat.zero_le _) _ _ (d.old s hs (fun k ok hk hok hdk => ?_) fun l' ol hl' hol hdl => ?_)
      · have := hall k ok hk hok hdk
        rw [set_get hil, if_neg (by omega)] at this
        exact this
      · have := hL l' ol hl' hol hdl
        rw [set_get hil, if_neg (fun e => by subst e; rw [ho] at hol; cases hol; exact hd hdl)] at this
        exact this
  · rw [set_get hil, if_neg (by omega)] at hli
    rw [put_getD _ _ _ _ (by rw [d.size]; exact hs), if_neg (fun hd => (ord.lwr l o s i oi hl ho hd (by omega) hoi).1 hdi)]
    exact mono (i + 1) (by omega) _ _ (d.new i oi s hi hoi hdi hs hli)
  · rw [set_get hil, if_neg (by omega)] at hli
    exact d.keys i hi hli b ver hb1 hb2
/-- What no other operation writes stays. -/
def Stable (L : Nat → Bool) (ops : Array Oper) (s : Tmp) : Prop := ∀ i oi, ops[i]? = some oi → L i = false → oi.dst ≠ some s
theorem Ord.stD (ord : Ord ops m L) {l : Nat} {o : Oper} {d : Tmp} (hl : L l = true) (ho : ops[l]? = some o) (hd : o.dst = some d) : Stable L ops d := fun i oi hoi hLi =>
  (ord.lwr l o d i oi hl ho hd (fun e => by rw [e, hl] at hLi; cases hLi) hoi).1
theorem Ord.stR (ord : Ord ops m L) {l : Nat} {o : Oper} {s : Tmp} (hl : L l = true) (ho : ops[l]? = some o) (hs : s ∈ readsOf ops o) : Stable L ops s := fun i oi hoi hLi hd => by
  rw [(ord.lrd l o s i oi hl ho hs hoi hd).1] at hLi
  cases hLi
theorem Ord.preL (ord : Ord ops m L) {i : Nat} {o : Oper} (hi : i < m) (ho : ops[i]? = some o) : L i = false := by
  cases h : L i with
  | false => rfl
  | true =>
    have := (ord.lge i o h ho).1
    omega
theorem opnd_read {o : Oper} {s : Tmp} (h : Operand.tmp s ∈ o.op.operands) : s ∈ readsOf ops o := by
  simp only [readsOf, List.mem_append, List.mem_filterMap]
  exact .inl ⟨.tmp s, by simpa using h, rfl⟩
variable {T' : Nat → List AV} {H' : Nat → AHeap}
/-- The tail's run. -/
def TailRun (P : Program) (G : Glob) (L : Nat → Bool) (ops : Array Oper) (m : Nat) (T' : Nat → List AV) (H' : Nat → AHeap) : Prop :=
  ∀ k, m ≤ k → ∀ o, ops[k]? = some o → if L k = true then T' (k + 1) = T' k ∧ H' (k + 1) = H' k else StepF P G ops o (T' k) (T' (k + 1)) (H' k) (H' (k + 1))
theorem tail_len (ht : TailRun P G L ops m T' H') (hm : m ≤ ops.size) : ∀ k, m ≤ k → k ≤ ops.size → (T' k).length = (T' m).length := by
  intro k
  induction k with
  | zero => intro h _; obtain rfl : m = 0 := by omega
            rfl
  | succ k ih =>
    intro h1 h2
    by_cases e : m = k + 1
    · rw [e]
    · have hs := ht k (by omega) _ (Array.getElem?_eq_getElem (by omega))
      split at hs
      · rw [hs.1]
        exact ih (by omega) (by omega)
      · obtain ⟨v, h3, _⟩ := hs
        rw [h3, tput_length]
        exact ih (by omega) (by omega)
theorem tail_stable (ht : TailRun P G L ops m T' H') (hm : m ≤ ops.size) {s : Tmp} (hs : Stable L ops s) (hlt : s < (T' m).length) : ∀ k, m ≤ k → k ≤ ops.size → (T' k).getD s .any = (T' m).getD s .any := by
  intro k
  induction k with
  | zero => intro h _; obtain rfl : m = 0 := by omega
            rfl
  | succ k ih =>
    intro h1 h2
    by_cases e : m = k + 1
    · rw [e]
    · have hget : ops[k]? = some ops[k] := Array.getElem?_eq_getElem (by omega)
      have hst := ht k (by omega) _ hget
      split at hst
      · rw [hst.1]
        exact ih (by omega) (by omega)
      · rename_i hL
        obtain ⟨v, h3, _⟩ := hst
        rw [h3, tput_getD _ _ _ _ (by rw [tail_len ht hm k (by omega) (by omega)]; exact hlt), if_neg (hs k _ hget (by simpa using hL))]
        exact ih (by omega) (by omega)
def left (ops : Array Oper) (listed : Array Bool) : Nat := ((List.range ops.size).filter fun i => !listed.getD i false).length
theorem left_set {listed : Array Bool} (hs : listed.size = ops.size) {i : Nat} (hi : i < ops.size) (h1 : listed.getD i false = false) : left ops (listed.setIfInBounds i true) < left ops listed := by
  have hil : i < listed.size := by omega
  unfold left
  have e : ((List.range ops.size).filter fun j => !(listed.setIfInBounds i true).getD j false) = ((List.range ops.size).filter fun j => !listed.getD j false).filter fun j => j != i := by
    rw [List.filter_filter]
    congr 1
    funext j
    rw [set_get hil]
    by_cases hij : i = j
    · subst hij
      simp
    · simp only [hij, if_false]
      have : (j != i) = true := by simp; exact fun e => hij e.symm
      simp [this]
  rw [e]
  have hmem : i ∈ (List.range ops.size).filter fun j => !listed.getD j false := List.mem_filter.2 ⟨by simpa using hi, by simp [h1]⟩
  refine Nat.lt_of_le_of_ne (List.length_filter_le _ _) fun he => ?_
  have := (List.length_filter_eq_length_iff.1 he) i hmem
  simp at this
theorem left_zero {listed : Array Bool} (h : left ops listed = 0) : ∀ i, i < ops.size → listed.getD i false = true := fun i hi => by
  cases hx : listed.getD i false with
  | true => rfl
  | false =>
    have : i ∈ (List.range ops.size).filter fun i => !listed.getD i false := List.mem_filter.2 ⟨by simpa using hi, by simp [hx]⟩
    have := List.length_pos_of_mem this
    unfold left at h
    omega
theorem closed_set {listed : Array Bool} (hs : listed.size = ops.size) {i : Nat} {o : Oper} (ho : ops[i]? = some o) (hrd : ∀ e ∈ o.after, Region.binds .any e = true → listed.getD e.on false = true)
    (hc : ∀ i o, listed.getD i false = true → ops[i]? = some o → ∀ e ∈ o.after, Region.binds .any e = true → listed.getD e.on false = true) :
    ∀ j p, (listed.setIfInBounds i true).getD j false = true → ops[j]? = some p → ∀ e ∈ p.after, Region.binds .any e = true → (listed.setIfInBounds i true).getD e.on false = true := by
  intro j p hj hp e he hb
  have hil : i < listed.size := by rw [hs]; exact (Array.getElem?_eq_some_iff.1 ho).1
  rw [set_get hil] at hj ⊢
  by_cases hij : i = j
  · subst hij
    rw [ho] at hp
    cases hp
    split
    · rfl
    · exact hrd e he hb
  · rw [if_neg hij] at hj
    split
    · rfl
    · exact hc j p hj hp e he hb
theorem free_go {l : Nat} {o : Oper} (hgd : o.guard = none) {t : List AV} (hf : FreeAt P G t o H) {a : Act} {F : Act → World → Prop} {ho : ops[l]? = some o}
    (hx : ∀ x, x ∈ o.op.operands → AR σ w (aenv G t x) (a.eval x)) (rel : Rel G σ H w)
    (hF : ∀ (v : AV) (u : Value) (σ1 : Sig) (w' : World), AR σ1 w' v u → Rel G σ1 H w' → Ext σ H w σ1 H w' → Quiet σ H w σ1 w' → (∀ d, o.dst = some d → t.getD d .any = v) → F (a.put o.dst u) w') : wpOp P ops Q l F a w := by
  obtain ⟨v, hop, hd⟩ := hf
  unfold wpOp
  rw [ho]
  simp only
  have hw : Region.wanted o (yielded ops a.tmps) = true := by simp [Region.wanted, hgd]
  rw [hw]
  simp only [if_true]
  exact .inl (hop σ w a F Q hx rel fun u w' ⟨σ1, f1, f2, f3, f4⟩ => hF v u σ1 w' f1 f2 f3 (f4 rfl) hd)
/-- The tail, with late ones among it. -/
theorem tail_late (ord : Ord ops m L) (ht : TailRun P G L ops m T' H') {t0 : List AV} (hlen : (T' m).length = t0.length) (hst0 : ∀ s, Stable L ops s → (T' m).getD s .any = t0.getD s .any)
    {kb : Nat} (hbar : kb < ops.size → L kb = false ∧ ∀ l, L l = true → l < ops.size → (befs ops kb).testBit l = true)
    (hfr : ∀ k, m ≤ k → k ≤ kb → k ≤ ops.size → ∀ l o, L l = true → ops[l]? = some o → FreeAt P G t0 o (H' k)) {H0 : AHeap}
    (hend : ∀ (σ : Sig) (a : Act) (w : World), Sim G σ (T' ops.size) (H' ops.size) a w → Ext σ0 H0 w0 σ (H' ops.size) w → Q .normal a w) :
    ∀ (fuel k : Nat) (listed : Array Bool) (a : Act) (w : World) (σ : Sig), m ≤ k → k ≤ ops.size → left ops listed ≤ fuel → listed.size = ops.size → (∀ i, i < ops.size → L i = false → (listed.getD i false = true ↔ i < k)) →
    (∀ i o, listed.getD i false = true → ops[i]? = some o → ∀ e ∈ o.after, Region.binds .any e = true → listed.getD e.on false = true) → SimL G L ops listed σ (T' k) (H' k) a w → Ext σ0 H0 w0 σ (H' k) w → wpAny P .any ops Q fuel listed a w := by
  -- from k on there are late ones only
  have skip : ∀ k i, m ≤ k → k ≤ i → i ≤ ops.size → (∀ j, k ≤ j → j < i → L j = true) → T' i = T' k ∧ H' i = H' k := by
    intro k i hk
    induction i with
    | zero => intro h _ _; obtain rfl : k = 0 := by omega
              exact ⟨rfl, rfl⟩
    | succ i ih =>
      intro h1 h2 h3
      by_cases e : k = i + 1
      · subst e
        exact ⟨rfl, rfl⟩
      · obtain ⟨e1, e2⟩ := ih (by omega) (by omega) (fun j hj hji => h3 j hj (by omega))
        have := ht i (by omega) _ (Array.getElem?_eq_getElem (by omega))
        rw [if_pos (h3 i (by omega) (by omega))] at this
        exact ⟨this.1.trans e1, this.2.trans e2⟩
  have done : ∀ (k : Nat) (listed : Array Bool) (a : Act) (w : World) (σ : Sig), m ≤ k → k ≤ ops.size → (∀ i, i < ops.size → L i = false → (listed.getD i false = true ↔ i < k)) → (∀ i, i < ops.size → listed.getD i false = true) → SimL G L ops listed σ (T' k) (H' k) a w → Ext σ0 H0 w0 σ (H' k) w → Q .normal a w := by
    intro k listed a w σ hk hks hl hall s x
    obtain ⟨e1, e2⟩ := skip k ops.size hk hks (Nat.le_refl _) (fun j hj hjs => by
      cases h : L j with
      | true => rfl
      | false =>
        have := (hl j hjs h).1 (hall j hjs)
        omega)
    refine hend σ a w ?_ ?_
    · rw [e1, e2]
      exact s.down fun l ol h1 h2 => hall l (Array.getElem?_eq_some_iff.1 h2).1
    · rw [e2]
      exact x
  intro fuel
  induction fuel with
  | zero =>
    intro k listed a w σ hm hk hf hs hl hc s x
    have hall := left_zero (ops := ops) (listed := listed) (by omega)
    refine ⟨?_, done k listed a w σ hm hk hl hall s x⟩
    rw [List.eq_nil_iff_forall_not_mem]
    intro i hi
    obtain ⟨h1, h2⟩ := ready_un hi hs
    rw [hall i h2] at h1
    cases h1
  | succ fuel ih =>
    intro k listed a w σ hm hk hf hs hl hc s x
    refine ⟨fun hr => ?_, fun i hi => ?_⟩
    · refine done k listed a w σ hm hk hl (fun i hi => ?_) s x
      cases hx : listed.getD i false with
      | true => rfl
      | false =>
        obtain ⟨j, _, hj⟩ := some_ready ord.low hs ops.size (Nat.le_refl _) ⟨i, hi, hx⟩
        rw [hr] at hj
        cases hj
    · obtain ⟨h1, h2⟩ := ready_un hi hs
      obtain ⟨_, o, ho, hrd⟩ := mem_ready.1 hi
      have hrd' : ∀ e ∈ o.after, Region.binds .any e = true → listed.getD e.on false = true := fun e he hb => hrd e he hb
      have hil : i < listed.size := by omega
      have hlt := left_set hs h2 h1
      have hc' := closed_set hs ho hrd' hc
      have hs' : (listed.setIfInBounds i true).size = ops.size := by simpa using hs
      cases hLi : L i with
      | true =>
        -- a late one
        have hgd := (ord.lge i o hLi ho).2
        have hkb : k ≤ kb := by
          refine Nat.le_of_not_lt fun hlt => ?_
          obtain ⟨b1, b2⟩ := hbar (by omega)
          have hbl := (hl kb (by omega) b1).2 hlt
          have hget : ops[kb]? = some ops[kb] := Array.getElem?_eq_getElem (by omega)
          have := bef_listed ord.low hc kb _ hget (fun e he hb => hc kb _ hbl hget e he hb) i (b2 i hLi h2)
          rw [h1] at this
          cases this
        refine free_go (ho := ho) hgd (hfr k hm hkb hk i o hLi ho) (fun y hy => ?_) s.rel (fun v u σ1 w' a1 a2 a3 a4 hd => ?_)
        · cases y with
          | tmp q =>
            have hq := opnd_read (ops := ops) hy
            by_cases hqt : q < t0.length
            · have e : (T' k).getD q .any = t0.getD q .any := by
                rw [tail_stable ht ord.le (ord.stR hLi ho hq) (by rw [hlen]; exact hqt) k hm hk]
                exact hst0 q (ord.stR hLi ho hq)
              have := s.tmps q (by rw [tail_len ht ord.le k hm hk, hlen]; exact hqt) (fun l ol hl' hol hdl => bef_listed ord.low hc i o ho hrd' l (ord.lrd i o q l ol hLi ho hq hol hdl).2)
              rw [e] at this
              exact this
            · have : aenv G t0 (.tmp q) = .any := by simp [aenv, List.getD_eq_getElem?_getD, List.getElem?_eq_none (Nat.le_of_not_lt hqt)]
              rw [this]
              exact .any _
          | const c => exact toAV_ar c
          | global g => exact s.rel.glob g
          | func f => exact .fn #[] rfl (fun j hj => by simp at hj)
        · obtain ⟨r1, x1, mono, mono1⟩ := liftQ s.rel a2 a3 a4 (σ := σ) (fun _ _ _ h => h) rfl (fun _ h => h) s.rel
          refine ih k _ _ _ ⟨σ.ρ, σ1.ro⟩ hm hk (by omega) hs' (fun j hj hLj => ?_) hc' ?_ (x.trans x1)
          · rw [set_get hil, if_neg (fun e => by rw [← e, hLi] at hLj; cases hLj)]
            exact hl j hj hLj
          · refine ⟨(Act.put_def _ _ _).trans s.defers, (Act.put_size _ _ _).trans s.size, fun q hq hL => ?_, r1⟩
            rw [put_getD _ _ _ _ (by rw [s.size]; exact hq)]
            by_cases hd' : o.dst = some q
            · rw [if_pos hd', tail_stable ht ord.le (ord.stD hLi ho hd') (by rw [← tail_len ht ord.le k hm hk]; exact hq) k hm hk, hst0 q (ord.stD hLi ho hd'), hd q hd']
              exact mono1 _ _ a1
            · rw [if_neg hd']
              refine mono _ _ (s.tmps q hq fun l ol hl' hol hdl => ?_)
              have := hL l ol hl' hol hdl
              rw [set_get hil, if_neg (fun e => by subst e; rw [ho] at hol; cases hol; exact hd' hdl)] at this
              exact this
      | false =>
        -- the next one of the tail
        have hki : k ≤ i := by
          rcases Nat.lt_or_ge i k with h | h
          · rw [(hl i h2 hLi).2 h] at h1
            cases h1
          · exact h
        have hbet : ∀ j, k ≤ j → j < i → L j = true := fun j hj hji => by
          cases h : L j with
          | true => rfl
          | false =>
            have := bef_listed ord.low hc i o ho hrd' j (ord.tail i (by omega) h2 hLi j hji h)
            have := (hl j (by omega) h).1 this
            omega
        obtain ⟨e1, e2⟩ := skip k i hm hki (by omega) hbet
        have hstep := ht i (by omega) o ho
        rw [if_neg (by rw [hLi]; decide)] at hstep
        obtain ⟨v, g1, wd, hw, g2⟩ := hstep
        rw [← e1, ← e2] at s
        rw [← e2] at x
        have hslot : ∀ q, q ∈ readsOf ops o → AR σ w ((T' i).getD q .any) (a.tmps.getD q undef) ∧ (q < a.tmps.size ∨ (T' i).getD q .any = .any) := by
          intro q hq
          by_cases hqt : q < (T' i).length
          · exact ⟨s.tmps q hqt fun l ol hl' hol hdl => bef_listed ord.low hc i o ho hrd' l ((ord.lwr l ol q i o hl' hol hdl (fun e => by rw [e, hl'] at hLi; cases hLi) ho).2 hq), .inl (by rw [s.size]; exact hqt)⟩
          · have : (T' i).getD q .any = .any := by simp [List.getD_eq_getElem?_getD, List.getElem?_eq_none (Nat.le_of_not_lt hqt)]
            rw [this]
            exact ⟨.any _, .inr rfl⟩
        have hwd : Region.wanted o (yielded ops a.tmps) = wd := hw σ w a fun g want dd hg hd => hslot dd (by simp [readsOf, hg, hd])
        have hl' : ∀ j, j < ops.size → L j = false → ((listed.setIfInBounds i true).getD j false = true ↔ j < i + 1) := by
          intro j hj hLj
          rw [set_get hil]
          by_cases hij : i = j
          · subst hij
            simp
          · rw [if_neg hij, hl j hj hLj]
            constructor
            · intro h; omega
            · intro h
              rcases Nat.lt_or_ge j k with h' | h'
              · exact h'
              · rw [hbet j h' (by omega)] at hLj
                cases hLj
        have next : ∀ (σ' : Sig) (u : Value) (w' : World), AR σ' w' v u → Rel G σ' (H' (i + 1)) w' → Ext σ (H' i) w σ' (H' (i + 1)) w' → wpAny P .any ops Q fuel (listed.setIfInBounds i true) (a.put o.dst u) w' := by
          intro σ' u w' f1 f2 f3
          refine ih (i + 1) _ _ _ σ' (by omega) (by omega) (by omega) hs' hl' hc' ?_ (x.trans f3)
          refine ⟨(Act.put_def _ _ _).trans s.defers, by rw [Act.put_size, g1, tput_length]; exact s.size, fun q hq hL => ?_, f2⟩
          rw [g1, tput_length] at hq
          rw [g1, tput_getD _ _ _ _ hq, put_getD _ _ _ _ (by rw [s.size]; exact hq)]
          split
          · exact f1
          · refine (s.tmps q hq fun l ol hl' hol hdl => ?_).ext s.rel f3
            have := hL l ol hl' hol hdl
            rw [set_get hil, if_neg (fun e => by rw [e, hl'] at hLi; cases hLi)] at this
            exact this
        unfold wpOp
        rw [ho]
        simp only
        rw [hwd]
        cases wd with
        | true =>
          simp only [if_true] at g2 ⊢
          refine .inl (g2 σ w a _ Q (fun y hy => ?_) s.rel fun u w' ⟨σ1, f1, f2, f3, _⟩ => next σ1 u w' f1 f2 f3)
          cases y with
          | tmp q => exact (hslot q (opnd_read hy)).1
          | const c => exact toAV_ar c
          | global g => exact s.rel.glob g
          | func f => exact .fn #[] rfl (fun j hj => by simp at hj)
        | false =>
          simp only [Bool.false_eq_true, if_false] at g2 ⊢
          obtain ⟨hv, hH⟩ := g2
          exact next σ undef w (by rw [hv]; exact .v _) (by rw [hH]; exact s.rel) (by rw [hH]; exact Ext.refl _ _ _)
theorem draw_late (ord : Ord ops m L) (hst : ∀ i, i < m → ∀ o, ops[i]? = some o → StepAt P G ops o (T i) (T (i + 1)) (Hh i) (Hh (i + 1)) (V i))
    (ht : TailRun P G L ops m T' H') (hT : T' m = T m) (hH : H' m = Hh m) {kb : Nat} (hbar : kb < ops.size → L kb = false ∧ ∀ l, L l = true → l < ops.size → (befs ops kb).testBit l = true)
    (hfr0 : ∀ l o, L l = true → ops[l]? = some o → FreeAt P G (T 0) o (Hh 0)) (hfr : ∀ k, m ≤ k → k ≤ kb → k ≤ ops.size → ∀ l o, L l = true → ops[l]? = some o → FreeAt P G (T 0) o (H' k))
    (hend : ∀ (σ : Sig) (a : Act) (w : World), Sim G σ (T' ops.size) (H' ops.size) a w → Ext σ0 (Hh 0) w0 σ (H' ops.size) w → Q .normal a w) :
    ∀ (fuel : Nat) (listed : Array Bool) (a : Act) (w : World) (σ : Sig), DInv G L ops m T Hh V σ0 w0 σ listed a w → left ops listed ≤ fuel → wpAny P .any ops Q fuel listed a w := by
  have hlen : (T' m).length = (T 0).length := by rw [hT]; exact run_len hst ord.le m (Nat.le_refl _)
  have hst0 : ∀ s, Stable L ops s → (T' m).getD s .any = (T 0).getD s .any := fun s hs => by
    by_cases hlt : s < (T 0).length
    · rw [hT]
      exact run_old ord hst hlt m (Nat.le_refl _) fun j oj hj hoj => hs j oj hoj (ord.preL hj hoj)
    · rw [List.getD_eq_getElem?_getD, List.getD_eq_getElem?_getD, List.getElem?_eq_none (by rw [hlen]; exact Nat.le_of_not_lt hlt), List.getElem?_eq_none (Nat.le_of_not_lt hlt)]
  have toTail : ∀ (fuel : Nat) (listed : Array Bool) (a : Act) (w : World) (σ : Sig), DInv G L ops m T Hh V σ0 w0 σ listed a w → (∀ i, i < m → listed.getD i false = true) → left ops listed ≤ fuel → wpAny P .any ops Q fuel listed a w := by
    intro fuel listed a w σ d hall hf
    have s := d.all ord hst hall
    refine tail_late ord ht hlen hst0 hbar hfr hend fuel m listed a w _ (Nat.le_refl _) ord.le hf d.lsize (fun i hi hLi => ⟨fun h => ?_, fun h => hall i h⟩) d.closed (by rw [hT, hH]; exact s) (by rw [hH]; exact d.ext)
    rcases Nat.lt_or_ge i m with h' | h'
    · exact h'
    · rw [d.tailUn i h' hLi] at h
      cases h
  intro fuel
  induction fuel with
  | zero =>
    intro listed a w σ d hf
    refine toTail 0 listed a w σ d (fun i hi => left_zero (ops := ops) (by omega) i ?_) hf
    have := ord.le
    omega
  | succ fuel ih =>
    intro listed a w σ d hf
    by_cases hall : ∀ i, i < m → listed.getD i false = true
    · exact toTail _ listed a w σ d hall hf
    · have hex : ∃ i, i < m ∧ listed.getD i false = false := by
        refine Classical.byContradiction fun hn => hall fun i hi => ?_
        cases h : listed.getD i false with
        | true => rfl
        | false => exact absurd ⟨i, hi, h⟩ hn
      refine ⟨fun hr => ?_, fun i hi => ?_⟩
      · obtain ⟨i, _, hi⟩ := some_ready ord.low d.lsize m ord.le hex
        rw [hr] at hi
        cases hi
      · obtain ⟨h1, h2⟩ := ready_un hi d.lsize
        obtain ⟨_, o, ho, hrd⟩ := mem_ready.1 hi
        have hrd' : ∀ e ∈ o.after, Region.binds .any e = true → listed.getD e.on false = true := fun e he hb => hrd e he hb
        have hlt := left_set d.lsize h2 h1
        cases hLi : L i with
        | true =>
          refine free_go (ho := ho) (H := Hh 0) (σ := rs σ (Hh 0).length) (ord.lge i o hLi ho).2 (hfr0 i o hLi ho) (fun y hy => ?_) (d.rel 0 (Nat.zero_le _)) (fun v u σ1 w' a1 a2 a3 a4 hd => ?_)
          · cases y with
            | tmp q =>
              have hq := opnd_read (ops := ops) hy
              by_cases hqt : q < (T 0).length
              · exact d.old q hqt (fun k ok hk hok hdk => absurd hdk (ord.stR hLi ho hq k ok hok (ord.preL hk hok))) (fun l ol hl' hol hdl => bef_listed ord.low d.closed i o ho hrd' l (ord.lrd i o q l ol hLi ho hq hol hdl).2)
              · have : aenv G (T 0) (.tmp q) = .any := by simp [aenv, List.getD_eq_getElem?_getD, List.getElem?_eq_none (Nat.le_of_not_lt hqt)]
                rw [this]
                exact .any _
            | const c => exact toAV_ar c
            | global g => exact (d.rel 0 (Nat.zero_le _)).glob g
            | func f => exact .fn #[] rfl (fun j hj => by simp at hj)
          · exact ih _ _ _ _ (d.free ord hst hLi ho hrd' a1 a2 a3 a4 hd) (by omega)
        | false =>
          have him : i < m := by
            rcases Nat.lt_or_ge i m with h | h
            · exact h
            · obtain ⟨j, hj, hjun⟩ := hex
              have := bef_listed ord.low d.closed i o ho hrd' j (ord.tail i h h2 hLi j (by omega) (ord.preL hj (Array.getElem?_eq_getElem (by have := ord.le; omega))))
              rw [hjun] at this
              cases this
          have hcount : ∀ (σ' : Sig) (a' : Act) (w' : World), DInv G L ops m T Hh V σ0 w0 σ' (listed.setIfInBounds i true) a' w' → wpAny P .any ops Q fuel (listed.setIfInBounds i true) a' w' := fun σ' a' w' d' => ih _ _ _ σ' d' (by omega)
          have hlen0 := run_len hst ord.le i (by omega)
          obtain ⟨e1, ⟨N, hN⟩, wd, hw, hstep⟩ := hst i him o ho
          have hslot : ∀ s, s ∈ readsOf ops o → AR (rs σ (Hh i).length) w ((T i).getD s .any) (a.tmps.getD s undef) ∧ (s < a.tmps.size ∨ (T i).getD s .any = .any) := by
            intro s hs
            by_cases hlt : s < (T 0).length
            · exact ⟨d.slot ord hst him ho h1 hrd' hlt hs, .inl (by rw [d.size]; exact hlt)⟩
            · have hge : (T i).length ≤ s := by rw [hlen0]; exact Nat.le_of_not_lt hlt
              have : (T i).getD s .any = .any := by simp [List.getD_eq_getElem?_getD, List.getElem?_eq_none hge]
              rw [this]
              exact ⟨.any _, .inr rfl⟩
          have hwd : Region.wanted o (yielded ops a.tmps) = wd := hw (rs σ (Hh i).length) w a fun g want dd hg hd => hslot dd (by simp [readsOf, hg, hd])
          unfold wpOp
          rw [ho]
          simp only
          rw [hwd]
          cases wd with
          | true =>
            simp only [if_true] at hstep ⊢
            refine .inl (hstep (rs σ (Hh i).length) w a _ Q (fun x hx => ?_) (d.rel i (by omega)) fun u w' ⟨σ1, f1, f2, f3, f4⟩ => hcount _ _ _ (d.step ord hst him ho h1 hrd' f1 f2 f3 (f4 rfl)))
            cases x with
            | tmp s => exact (hslot s (opnd_read hx)).1
            | const c => exact toAV_ar c
            | global g => exact (d.rel i (by omega)).glob g
            | func f => exact .fn #[] rfl (fun j hj => by simp at hj)
          | false =>
            simp only [Bool.false_eq_true, if_false] at hstep ⊢
            obtain ⟨hv, hH⟩ := hstep
            refine hcount _ _ _ (d.step (σ1 := rs σ (Hh i).length) (w' := w) ord hst him ho h1 hrd' (by rw [hv]; exact .v _) (by rw [hH]; exact d.rel i (by omega)) (by rw [hH]; exact Ext.refl _ _ _) (Quiet.refl _ _ _))
end
end Go.Abs
