/- The same of code that bears no more than is looked at. -/
import Derived.Test.YtgmchiadphdlhaaDoorAbsIn
namespace Go.Abs
set_option linter.unusedVariables false
set_option linter.unusedSimpArgs false
variable {P : Program} {G : Glob} {σ : Sig} {H : AHeap} {w : World}
structure LOp where
  d : Option Tmp
  op : Op
  g : Option (Tmp × Bool)
inductive LCode where
  | skip
  | reg (pre post : List LOp)
  | regl (late pre mid post : List LOp)
  | seq (a b : LCode)
  | cond (c : Operand) (a b : LCode)
  | block (id : Nat) (c : LCode)
  | loop (c : LCode)
  | exit (id : Nat)
  | ret
  | bad
def aopO (P : Program) (G : Glob) (q nx : Bool) (env : Operand → AV) (H : AHeap) (op : Op) (K : AV → AHeap → Prop) : Prop := aop P G q nx env H ⟨none, op, 0, "", #[], none⟩ K
def nxL : List LOp → Bool
  | ⟨_, .convert _ _ _, _⟩ :: _ => true
  | _ => false
def lguardV (x : AV) (want : Bool) (K1 K2 : Prop) : Prop := match x with
  | .v (.bool c) => (c = want → K1) ∧ (c = !want → K2)
  | .v (.tuple _) => K2
  | _ => False
@[go_sem] theorem lguardV_bool (c want : Bool) (K1 K2 : Prop) : lguardV (.v (.bool c)) want K1 K2 = ((c = want → K1) ∧ (c = !want → K2)) := rfl
@[go_sem] theorem lguardV_undef (want : Bool) (K1 K2 : Prop) : lguardV (.v undef) want K1 K2 = K2 := rfl
def lguard (t : List AV) (g : Option (Tmp × Bool)) (K1 K2 : Prop) : Prop :=
  match g with
  | none => K1
  | some (d, want) => lguardV (t.getD d .any) want K1 K2
def lops (P : Program) (G : Glob) (q : Bool) : List LOp → List AV → AHeap → (List AV → AHeap → Prop) → Prop
  | [], t, H, K => K t H
  | o :: rest, t, H, K => ∃ bs : List Nat, (q = true → bs = []) ∧ afz bs t H fun t H => lguard t o.g (aopO P G q (nxL rest) (aenv G t) H o.op fun r H' => lops P G q rest (tput t o.d r) H' K) (lops P G q rest (tput t o.d (.v undef)) H K)
def slim (ops : Array Oper) (o : Oper) : LOp :=
  match o.guard with
  | none => ⟨o.dst, o.op, none⟩
  | some (g, want) => match (ops[g]?).bind (·.dst) with
    | some d => ⟨o.dst, o.op, some (d, want)⟩
    | none => ⟨o.dst, .recv 0 (.tmp 0) false, none⟩
theorem aopO_eq (q nx : Bool) (env : Operand → AV) (o : Oper) (K : AV → AHeap → Prop) : aopO P G q nx env H o.op K = aop P G q nx env H o K := by
  unfold aopO aop
  rfl
theorem slim_ok {q nx : Bool} {ops : Array Oper} {o : Oper} {t : List AV} {env : Operand → AV} {F1 : AV → AHeap → Prop} {F2 : Prop} (h : lguard t (slim ops o).g (aopO P G q nx env H (slim ops o).op F1) F2) : (slim ops o).d = o.dst ∧ aguard ops t o (aop P G q nx env H o F1) F2 := by
  unfold slim at h ⊢
  unfold aguard
  cases hg : o.guard with
  | none =>
    simp only [hg, lguard, aopO_eq] at h ⊢
    exact ⟨trivial, h⟩
  | some gw =>
    obtain ⟨g, want⟩ := gw
    simp only [hg] at h ⊢
    cases hd : (ops[g]?).bind (·.dst) with
    | none =>
      simp only [hd, lguard] at h
      simp [aopO, aop] at h
    | some d =>
      simp only [hd, lguard, aopO_eq] at h ⊢
      refine ⟨trivial, ?_⟩
      unfold lguardV at h
      split at h <;> simp_all
theorem lops_list {ops : Array Oper} {Q : Exit → Act → World → Prop} : ∀ {l : List Oper} {t : List AV} {H : AHeap} {K : List AV → AHeap → Prop}, lops P G false (l.map (slim ops)) t H K → ∀ (σ : Sig) (a : Act) (w : World), Sim G σ t H a w →
    (∀ t' H' σ' a' w', K t' H' → Sim G σ' t' H' a' w' → Ext σ H w σ' H' w' → Q .normal a' w') → wpList P ops Q l a w
  | [], t, H, K, h, σ, a, w, s, hQ => hQ _ _ _ _ _ h s (Ext.refl _ _ _)
  | o :: rest, t, H, K, h, σ, a, w, s, hQ => by
    obtain ⟨bs, _, h⟩ := h
    obtain ⟨t0, H0, σ0, h, s, x0⟩ := afz_ok h s
    obtain ⟨hd, h⟩ := slim_ok h
    obtain ⟨wd, h, hw⟩ := aguard_ok h
    refine wpList_step fun KK hKK => ?_
    rw [hw σ0 w a (fun g want d _ _ => sim_guard s d)]
    cases wd with
    | true =>
      simp only [if_true] at h ⊢
      obtain ⟨r, H', hK, hop, _⟩ := aop_ok h
      rw [hd] at hK
      refine hop σ0 w a KK Q (fun x _ => s.env x) s.rel fun u w' ⟨σ', a1, a2, a3, _⟩ => hKK _ _ ?_
      exact lops_list hK σ' _ w' (s.put (q := false) a1 a2 a3) fun t' H'' σ'' a' w'' k1 k2 k3 => hQ _ _ _ _ _ k1 k2 (x0.trans (a3.trans k3))
    | false =>
      simp only [Bool.false_eq_true, if_false] at h ⊢
      rw [hd] at h
      refine hKK _ _ (lops_list h σ0 _ w (s.put (q := false) (.v _) s.rel (Ext.refl _ _ _)) fun t' H'' σ'' a' w'' k1 k2 k3 => hQ _ _ _ _ _ k1 k2 (x0.trans k3))
theorem lops_run {ops : Array Oper} : ∀ {l : List Oper} {t : List AV} {H : AHeap} {K : List AV → AHeap → Prop}, lops P G true (l.map (slim ops)) t H K →
    ∃ (T : Nat → List AV) (Hh : Nat → AHeap) (V : Nat → AV), T 0 = t ∧ Hh 0 = H ∧ K (T l.length) (Hh l.length) ∧ ∀ k o, l[k]? = some o → StepAt P G ops o (T k) (T (k + 1)) (Hh k) (Hh (k + 1)) (V k)
  | [], t, H, K, h => ⟨fun _ => t, fun _ => H, fun _ => .any, rfl, rfl, h, fun k o hk => by simp at hk⟩
  | o :: rest, t, H, K, h => by
    obtain ⟨bs, hbs, h⟩ := h
    cases hbs rfl
    obtain ⟨hd, h⟩ := slim_ok h
    obtain ⟨wd, h, hw⟩ := aguard_ok h
    have fin : ∀ (v : AV) (H' : AHeap), lops P G true (rest.map (slim ops)) (tput t o.dst v) H' K → StepAt P G ops o t (tput t o.dst v) H H' v →
        ∃ (T : Nat → List AV) (Hh : Nat → AHeap) (V : Nat → AV), T 0 = t ∧ Hh 0 = H ∧ K (T (o :: rest).length) (Hh (o :: rest).length) ∧ ∀ k o', (o :: rest)[k]? = some o' → StepAt P G ops o' (T k) (T (k + 1)) (Hh k) (Hh (k + 1)) (V k) := by
      intro v H' h hs
      obtain ⟨T, Hh, V, h1, h2, h3, h4⟩ := lops_run h
      refine ⟨fun k => match k with | 0 => t | k + 1 => T k, fun k => match k with | 0 => H | k + 1 => Hh k, fun k => match k with | 0 => v | k + 1 => V k, rfl, rfl, h3, fun k o' hk => ?_⟩
      cases k with
      | zero =>
        simp at hk
        subst hk
        show StepAt P G ops o t (T 0) H (Hh 0) v
        rw [h1, h2]
        exact hs
      | succ k => exact h4 k o' (by simpa using hk)
    cases wd with
    | true =>
      simp only [if_true] at h
      obtain ⟨r, H', hK, hop, hN⟩ := aop_ok h
      rw [hd] at hK
      exact fin r H' hK ⟨rfl, hN rfl, true, hw, hop⟩
    | false =>
      simp only [Bool.false_eq_true, if_false] at h
      rw [hd] at h
      exact fin _ H h ⟨rfl, ⟨[], by simp⟩, false, hw, rfl, rfl⟩
/-- The tail without its late ones, in order. -/
def lopsN (P : Program) (G : Glob) : List LOp → List AV → AHeap → (List AV → AHeap → Prop) → Prop
  | [], t, H, K => K t H
  | o :: rest, t, H, K => lguard t o.g (aopO P G false (nxL rest) (aenv G t) H o.op fun r H' => lopsN P G rest (tput t o.d r) H' K) (lopsN P G rest (tput t o.d (.v undef)) H K)
def restL (L : Nat → Bool) (ops : Array Oper) : Nat → List Oper → List LOp
  | _, [] => []
  | k, o :: r => if L k then restL L ops (k + 1) r else slim ops o :: restL L ops (k + 1) r
def lateL (L : Nat → Bool) (ops : Array Oper) : Nat → List Oper → List LOp
  | _, [] => []
  | k, o :: r => if L k then slim ops o :: lateL L ops (k + 1) r else lateL L ops (k + 1) r
/-- A late operation, as it is looked at. -/
def lfree (P : Program) (G : Glob) (t : List AV) (o : LOp) : Prop :=
  ∃ v, NR v ∧ (∀ x, x ∈ o.op.operands → NR (aenv G t x)) ∧ aopO P G true false (aenv G t) [] o.op (fun r H' => r = v ∧ H' = []) ∧ ∀ d, o.d = some d → t.getD d .any = v
def lfrees (P : Program) (G : Glob) (t : List AV) : List LOp → Prop
  | [] => True
  | o :: r => lfree P G t o ∧ lfrees P G t r
theorem lfrees_at {L : Nat → Bool} {ops : Array Oper} {t : List AV} : ∀ {l : List Oper} {k0 : Nat}, lfrees P G t (lateL L ops k0 l) → ∀ j o, l[j]? = some o → L (k0 + j) = true → o.guard = none → Free P G t o
  | [], k0, h, j, o, hj, _, _ => by simp at hj
  | p :: r, k0, h, 0, o, hj, hL, hg => by
    simp at hj
    subst hj
    rw [Nat.add_zero] at hL
    simp only [lateL, hL, if_true, lfrees] at h
    obtain ⟨⟨v, h1, h2, h3, h4⟩, _⟩ := h
    have hs : slim ops p = ⟨p.dst, p.op, none⟩ := by simp [slim, hg]
    rw [hs] at h2 h3 h4
    simp only at h2 h3 h4
    rw [aopO_eq] at h3
    obtain ⟨r', H', ⟨rfl, rfl⟩, hop, _⟩ := aop_ok h3
    exact ⟨r', h1, h2, hop, h4⟩
  | p :: r, k0, h, j + 1, o, hj, hL, hg => by
    have hL' : L (k0 + 1 + j) = true := by rw [show k0 + 1 + j = k0 + (j + 1) from by omega]; exact hL
    simp only [lateL] at h
    split at h
    · exact lfrees_at h.2 j o (by simpa using hj) hL' hg
    · exact lfrees_at h j o (by simpa using hj) hL' hg
theorem lopsN_run {L : Nat → Bool} {ops : Array Oper} : ∀ {l : List Oper} {k0 : Nat} {t : List AV} {H : AHeap} {K : List AV → AHeap → Prop}, lopsN P G (restL L ops k0 l) t H K →
    ∃ (T : Nat → List AV) (Hh : Nat → AHeap), T 0 = t ∧ Hh 0 = H ∧ K (T l.length) (Hh l.length) ∧ ∀ j o, l[j]? = some o → if L (k0 + j) = true then T (j + 1) = T j ∧ Hh (j + 1) = Hh j else StepF P G ops o (T j) (T (j + 1)) (Hh j) (Hh (j + 1))
  | [], k0, t, H, K, h => ⟨fun _ => t, fun _ => H, rfl, rfl, h, fun j o hj => by simp at hj⟩
  | o :: rest, k0, t, H, K, h => by
    have fin : ∀ (t1 : List AV) (H1 : AHeap), lopsN P G (restL L ops (k0 + 1) rest) t1 H1 K → (if L k0 = true then t1 = t ∧ H1 = H else StepF P G ops o t t1 H H1) →
        ∃ (T : Nat → List AV) (Hh : Nat → AHeap), T 0 = t ∧ Hh 0 = H ∧ K (T (o :: rest).length) (Hh (o :: rest).length) ∧ ∀ j o', (o :: rest)[j]? = some o' → if L (k0 + j) = true then T (j + 1) = T j ∧ Hh (j + 1) = Hh j else StepF P G ops o' (T j) (T (j + 1)) (Hh j) (Hh (j + 1)) := by
      intro t1 H1 h hs
      obtain ⟨T, Hh, h1, h2, h3, h4⟩ := lopsN_run h
      refine ⟨fun k => match k with | 0 => t | k + 1 => T k, fun k => match k with | 0 => H | k + 1 => Hh k, rfl, rfl, h3, fun j o' hj => ?_⟩
      cases j with
      | zero =>
        simp at hj
        subst hj
        show if L k0 = true then T 0 = t ∧ Hh 0 = H else StepF P G ops o t (T 0) H (Hh 0)
        rw [h1, h2]
        exact hs
      | succ j =>
        have := h4 j o' (by simpa using hj)
        rw [show k0 + (j + 1) = k0 + 1 + j from by omega]
        exact this
    cases hL : L k0 with
    | true =>
      simp only [restL, hL, if_true] at h
      exact fin t H h (by simp [hL])
    | false =>
      simp only [restL, hL, Bool.false_eq_true, if_false, lopsN] at h
      obtain ⟨hd, h⟩ := slim_ok h
      obtain ⟨wd, h, hw⟩ := aguard_ok h
      cases wd with
      | true =>
        simp only [if_true] at h
        obtain ⟨r, H', hK, hop, _⟩ := aop_ok h
        rw [hd] at hK
        exact fin _ _ hK (by rw [hL]; simp only [Bool.false_eq_true, if_false]; exact ⟨r, rfl, true, hw, hop⟩)
      | false =>
        simp only [Bool.false_eq_true, if_false] at h
        rw [hd] at h
        exact fin _ _ h (by rw [hL]; simp only [Bool.false_eq_true, if_false]; exact ⟨_, rfl, false, hw, rfl, rfl⟩)
/-- The same; F holds of memory ahead of each, and behind the last. -/
def lopsF (P : Program) (G : Glob) (F : AHeap → Prop) : List LOp → List AV → AHeap → (List AV → AHeap → Prop) → Prop
  | [], t, H, K => F H ∧ K t H
  | o :: rest, t, H, K => F H ∧ lguard t o.g (aopO P G false (nxL rest) (aenv G t) H o.op fun r H' => lopsF P G F rest (tput t o.d r) H' K) (lopsF P G F rest (tput t o.d (.v undef)) H K)
theorem lopsF_now {F : AHeap → Prop} {l : List LOp} {t : List AV} {H : AHeap} {K : List AV → AHeap → Prop} (h : lopsF P G F l t H K) : F H := by
  cases l <;> exact h.1
theorem lopsF_run {F : AHeap → Prop} {L : Nat → Bool} {ops : Array Oper} : ∀ {l : List Oper} {k0 : Nat} {t : List AV} {H : AHeap} {K : List AV → AHeap → Prop}, lopsF P G F (restL L ops k0 l) t H K →
    ∃ (T : Nat → List AV) (Hh : Nat → AHeap), T 0 = t ∧ Hh 0 = H ∧ K (T l.length) (Hh l.length) ∧ (∀ j, j ≤ l.length → F (Hh j)) ∧ ∀ j o, l[j]? = some o → if L (k0 + j) = true then T (j + 1) = T j ∧ Hh (j + 1) = Hh j else StepF P G ops o (T j) (T (j + 1)) (Hh j) (Hh (j + 1))
  | [], k0, t, H, K, h => ⟨fun _ => t, fun _ => H, rfl, rfl, h.2, fun _ _ => h.1, fun j o hj => by simp at hj⟩
  | o :: rest, k0, t, H, K, h => by
    have fin : ∀ (t1 : List AV) (H1 : AHeap), F H → lopsF P G F (restL L ops (k0 + 1) rest) t1 H1 K → (if L k0 = true then t1 = t ∧ H1 = H else StepF P G ops o t t1 H H1) →
        ∃ (T : Nat → List AV) (Hh : Nat → AHeap), T 0 = t ∧ Hh 0 = H ∧ K (T (o :: rest).length) (Hh (o :: rest).length) ∧ (∀ j, j ≤ (o :: rest).length → F (Hh j)) ∧ ∀ j o', (o :: rest)[j]? = some o' → if L (k0 + j) = true then T (j + 1) = T j ∧ Hh (j + 1) = Hh j else StepF P G ops o' (T j) (T (j + 1)) (Hh j) (Hh (j + 1)) := by
      intro t1 H1 hF0 h hs
      obtain ⟨T, Hh, h1, h2, h3, hF, h4⟩ := lopsF_run h
      refine ⟨fun k => match k with | 0 => t | k + 1 => T k, fun k => match k with | 0 => H | k + 1 => Hh k, rfl, rfl, h3, fun j hj => (match j, hj with | 0, _ => hF0 | j + 1, hj => hF j (by simpa using hj)), fun j o' hj => ?_⟩
      cases j with
      | zero =>
        simp at hj
        subst hj
        show if L k0 = true then T 0 = t ∧ Hh 0 = H else StepF P G ops o t (T 0) H (Hh 0)
        rw [h1, h2]
        exact hs
      | succ j =>
        have := h4 j o' (by simpa using hj)
        rw [show k0 + (j + 1) = k0 + 1 + j from by omega]
        exact this
    cases hL : L k0 with
    | true =>
      simp only [restL, hL, if_true] at h
      exact fin t H (lopsF_now h) h (by simp [hL])
    | false =>
      simp only [restL, hL, Bool.false_eq_true, if_false, lopsF] at h
      obtain ⟨hF0, h⟩ := h
      obtain ⟨hd, h⟩ := slim_ok h
      obtain ⟨wd, h, hw⟩ := aguard_ok h
      cases wd with
      | true =>
        simp only [if_true] at h
        obtain ⟨r, H', hK, hop, _⟩ := aop_ok h
        rw [hd] at hK
        exact fin _ _ hF0 hK (by rw [hL]; simp only [Bool.false_eq_true, if_false]; exact ⟨r, rfl, true, hw, hop⟩)
      | false =>
        simp only [Bool.false_eq_true, if_false] at h
        rw [hd] at h
        exact fin _ _ hF0 h (by rw [hL]; simp only [Bool.false_eq_true, if_false]; exact ⟨_, rfl, false, hw, rfl, rfl⟩)
/-- A late operation at one view of memory. -/
def lfreeAt (P : Program) (G : Glob) (t : List AV) (H : AHeap) (o : LOp) : Prop := aopO P G true false (aenv G t) H o.op (fun r H' => H' = H ∧ ∀ d, o.d = some d → t.getD d .any = r)
def lfreesAt (P : Program) (G : Glob) (t : List AV) : List LOp → AHeap → Prop
  | [], _ => True
  | o :: r, H => lfreeAt P G t H o ∧ lfreesAt P G t r H
theorem lfreesAt_at {L : Nat → Bool} {ops : Array Oper} {t : List AV} {H : AHeap} : ∀ {l : List Oper} {k0 : Nat}, lfreesAt P G t (lateL L ops k0 l) H → ∀ j o, l[j]? = some o → L (k0 + j) = true → o.guard = none → FreeAt P G t o H
  | [], k0, h, j, o, hj, _, _ => by simp at hj
  | p :: r, k0, h, 0, o, hj, hL, hg => by
    simp at hj
    subst hj
    rw [Nat.add_zero] at hL
    simp only [lateL, hL, if_true, lfreesAt] at h
    obtain ⟨h3, _⟩ := h
    have hs : slim ops p = ⟨p.dst, p.op, none⟩ := by simp [slim, hg]
    unfold lfreeAt at h3
    rw [hs] at h3
    simp only at h3
    rw [aopO_eq] at h3
    obtain ⟨r', H', ⟨rfl, h4⟩, hop, _⟩ := aop_ok h3
    exact ⟨r', hop, h4⟩
  | p :: r, k0, h, j + 1, o, hj, hL, hg => by
    have hL' : L (k0 + 1 + j) = true := by rw [show k0 + 1 + j = k0 + (j + 1) from by omega]; exact hL
    simp only [lateL] at h
    split at h
    · exact lfreesAt_at h.2 j o (by simpa using hj) hL' hg
    · exact lfreesAt_at h j o (by simpa using hj) hL' hg
/-- The first one of the tail that waits for all late ones. -/
def barOf (ops : Array Oper) (m : Nat) (l : List Nat) : Nat := ((List.range ops.size).find? fun k => decide (m ≤ k) && !l.contains k && l.all fun j => (befs ops k).testBit j).getD ops.size
theorem barOf_ok {ops : Array Oper} {m : Nat} {l : List Nat} (hm : m ≤ ops.size) : m ≤ barOf ops m l ∧ barOf ops m l ≤ ops.size ∧ (barOf ops m l < ops.size → l.contains (barOf ops m l) = false ∧ ∀ j, l.contains j = true → (befs ops (barOf ops m l)).testBit j = true) := by
  unfold barOf
  cases h : (List.range ops.size).find? fun k => decide (m ≤ k) && !l.contains k && l.all fun j => (befs ops k).testBit j with
  | none =>
    rw [Option.getD_none]
    exact ⟨hm, Nat.le_refl _, fun h => absurd h (Nat.lt_irrefl _)⟩
  | some k =>
    have h1 := List.find?_some h
    have h2 := List.mem_of_find?_eq_some h
    rw [List.mem_range] at h2
    simp only [Bool.and_eq_true, decide_eq_true_eq, Bool.not_eq_true', List.all_eq_true] at h1
    refine ⟨h1.1.1, Nat.le_of_lt h2, fun _ => ⟨h1.1.2, fun j hj => h1.2 j (by simpa using hj)⟩⟩
def strip (P : Program) (imp : FuncId → Bool) : Code → LCode
  | .skip => .skip
  | .region _ ops draw => if noDefer ops.toList = true then (match draw with
    | true => if ordB ops (mOf P imp ops.toList) then .reg ((ops.toList.take (mOf P imp ops.toList)).map (slim ops)) ((ops.toList.drop (mOf P imp ops.toList)).map (slim ops))
      else if ordLB ops (mOf P imp ops.toList) (lateOf ops (mOf P imp ops.toList)) then .regl (lateL (fun k => (lateOf ops (mOf P imp ops.toList)).contains k) ops (mOf P imp ops.toList) (ops.toList.drop (mOf P imp ops.toList))) ((ops.toList.take (mOf P imp ops.toList)).map (slim ops)) (restL (fun k => (lateOf ops (mOf P imp ops.toList)).contains k) ops (mOf P imp ops.toList) ((ops.toList.drop (mOf P imp ops.toList)).take (barOf ops (mOf P imp ops.toList) (lateOf ops (mOf P imp ops.toList)) - (mOf P imp ops.toList)))) (restL (fun k => (lateOf ops (mOf P imp ops.toList)).contains k) ops ((mOf P imp ops.toList) + (barOf ops (mOf P imp ops.toList) (lateOf ops (mOf P imp ops.toList)) - (mOf P imp ops.toList))) ((ops.toList.drop (mOf P imp ops.toList)).drop (barOf ops (mOf P imp ops.toList) (lateOf ops (mOf P imp ops.toList)) - (mOf P imp ops.toList))))
      else .bad
    | false => .reg [] (ops.toList.map (slim ops))) else .bad
  | .seq a b => .seq (strip P imp a) (strip P imp b)
  | .cond c a b => .cond c (strip P imp a) (strip P imp b)
  | .block id c => .block id (strip P imp c)
  | .loop c => .loop (strip P imp c)
  | .exit id => .exit id
  | .label _ => .skip
  | .ret => .ret
  | _ => .bad
/-- A region; ahead of it blocks may be left to be read. -/
def lreg (P : Program) (G : Glob) (pre post : List LOp) (t : List AV) (H : AHeap) (K : List AV → AHeap → Prop) : Prop := ∃ (gs : List (Nat × Nat × TypeId)) (bs : List Nat), agh gs t H fun t H => afz bs t H fun t H => lops P G true pre t H fun t' H' => lops P G false post t' H' K
theorem lreg_go {pre post : List LOp} {t : List AV} {K : List AV → AHeap → Prop} (h : lops P G true pre t H fun t' H' => lops P G false post t' H' K) : lreg P G pre post t H K := ⟨[], [], h⟩
theorem lreg_fz (bs : List Nat) {pre post : List LOp} {t : List AV} {K : List AV → AHeap → Prop} (h : afz bs t H fun t H => lops P G true pre t H fun t' H' => lops P G false post t' H' K) : lreg P G pre post t H K := ⟨[], bs, h⟩
/-- Code, looked at: wherever it is run, it ends as Q tells. -/
def lavc (P : Program) (G : Glob) (lc : LCode) (t : List AV) (H : AHeap) (Q : APost) : Prop :=
  ∀ (imp : FuncId → Bool) (c : Code), strip P imp c = lc → P.follows .mixedOrders = true → ∀ (ro : Option Nat) (nn : Nat) (σ0 : Sig) (H0 : AHeap) (w0 : World) (σ : Sig) (a : Act) (w : World), Sim G σ t H a w → Ext σ0 H0 w0 σ H w → c.wpIn (wr ro) nn P (CPost G σ0 H0 w0 Q) a w
theorem lavc_ok {imp : FuncId → Bool} (hmix : P.follows .mixedOrders = true) (c : Code) (t : List AV) (H : AHeap) (Q : APost) (h : lavc P G (strip P imp c) t H Q) (σ0 : Sig) (H0 : AHeap) (w0 : World) (σ : Sig) (a : Act) (w : World) (s : Sim G σ t H a w) (x : Ext σ0 H0 w0 σ H w) : c.wp P (CPost G σ0 H0 w0 Q) a w :=
  wpIn_wide.1 (h imp c rfl hmix none 0 σ0 H0 w0 σ a w s x)
section
variable {imp : FuncId → Bool} {t : List AV} {Q R : APost}
theorem lavc_mono {c : LCode} (h : lavc P G c t H R) (hR : ∀ e t H, R e t H → Q e t H) : lavc P G c t H Q := fun imp c0 hc hm ro nn σ0 H0 w0 σ a w s x =>
  Code.wpIn_mono (fun e a' w' ⟨t', H', σ', k1, k2, k3⟩ => ⟨t', H', σ', hR _ _ _ k1, k2, k3⟩) (h imp c0 hc hm ro nn σ0 H0 w0 σ a w s x)
theorem lavc_weak {c : LCode} {t2 : List AV} (h : lavc P G c t2 H Q) (hle : ALe t t2) : lavc P G c t H Q := fun imp c0 hc hm ro nn σ0 H0 w0 σ a w s x => h imp c0 hc hm ro nn σ0 H0 w0 σ a w (hle.sim s) x
theorem strip_reg {c : Code} {pre post : List LOp} (h : strip P imp c = .reg pre post) : ∃ id ops draw, c = .region id ops draw ∧ noDefer ops.toList = true ∧ (draw = false → pre = [] ∧ post = ops.toList.map (slim ops)) ∧
    (draw = true → ordB ops (mOf P imp ops.toList) = true ∧ pre = (ops.toList.take (mOf P imp ops.toList)).map (slim ops) ∧ post = (ops.toList.drop (mOf P imp ops.toList)).map (slim ops)) := by
  cases c <;> simp only [strip, reduceCtorEq] at h
  rename_i id ops draw
  split at h
  · rename_i hdf
    cases draw
    · simp only [LCode.reg.injEq] at h
      exact ⟨_, _, _, rfl, hdf, fun _ => ⟨h.1.symm, h.2.symm⟩, (fun e => by cases e)⟩
    · simp only at h
      split at h
      · rename_i ho
        simp only [LCode.reg.injEq] at h
        exact ⟨_, _, _, rfl, hdf, (fun e => by cases e), fun _ => ⟨ho, h.1.symm, h.2.symm⟩⟩
      · split at h <;> cases h
  · cases h
theorem no_reg {id : Nat} {ops : Array Oper} {draw : Bool} {lc : LCode} (h : strip P imp (.region id ops draw) = lc) : (∃ pre post, lc = .reg pre post) ∨ (∃ ls pre mid post, lc = .regl ls pre mid post) ∨ lc = .bad := by
  simp only [strip] at h
  split at h
  · cases draw
    · exact .inl ⟨_, _, h.symm⟩
    · simp only at h
      split at h
      · exact .inl ⟨_, _, h.symm⟩
      · split at h
        · exact .inr (.inl ⟨_, _, _, _, h.symm⟩)
        · exact .inr (.inr h.symm)
  · exact .inr (.inr h.symm)
theorem strip_regl {c : Code} {ls pre mid post : List LOp} (h : strip P imp c = .regl ls pre mid post) : ∃ (id : Nat) (ops : Array Oper) (m : Nat) (l : List Nat), c = .region id ops true ∧ noDefer ops.toList = true ∧ ordLB ops m l = true ∧
    ls = lateL (fun k => l.contains k) ops m (ops.toList.drop m) ∧ pre = (ops.toList.take m).map (slim ops) ∧ mid = restL (fun k => l.contains k) ops m ((ops.toList.drop m).take (barOf ops m l - m)) ∧ post = restL (fun k => l.contains k) ops (m + (barOf ops m l - m)) ((ops.toList.drop m).drop (barOf ops m l - m)) := by
  cases c <;> simp only [strip, reduceCtorEq] at h
  rename_i id ops draw
  split at h
  · rename_i hdf
    cases draw
    · simp only [reduceCtorEq] at h
    · simp only at h
      split at h
      · cases h
      · split at h
        · rename_i ho
          simp only [LCode.regl.injEq] at h
          exact ⟨id, ops, _, _, rfl, hdf, ho, h.1.symm, h.2.1.symm, h.2.2.1.symm, h.2.2.2.symm⟩
        · cases h
  · cases h
theorem regl_core (hmix : P.follows .mixedOrders = true) {id : Nat} {ops : Array Oper} {m : Nat} {l : List Nat} (hord : ordLB ops m l = true) {tL : List AV} (hlen : tL.length = t.length)
    (hsame : ∀ s, (∀ o ∈ lateL (fun k => l.contains k) ops m (ops.toList.drop m), o.d ≠ some s) → tL.getD s .any = t.getD s .any) {T : Nat → List AV} {Hh : Nat → AHeap} {V : Nat → AV} (e1 : T 0 = tL) (e2 : Hh 0 = H)
    (hst' : ∀ i, i < m → ∀ o, ops[i]? = some o → StepAt P G ops o (T i) (T (i + 1)) (Hh i) (Hh (i + 1)) (V i)) {T' : Nat → List AV} {H' : Nat → AHeap} (ht : TailRun P G (fun k => l.contains k) ops m T' H') (f1 : T' m = T m) (f2 : H' m = Hh m)
    {kb : Nat} (hbar : kb < ops.size → (fun k => l.contains k) kb = false ∧ ∀ j, (fun k => l.contains k) j = true → j < ops.size → (befs ops kb).testBit j = true)
    (hfr0 : ∀ i o, (fun k => l.contains k) i = true → ops[i]? = some o → FreeAt P G (T 0) o (Hh 0)) (hfr : ∀ k, m ≤ k → k ≤ kb → k ≤ ops.size → ∀ i o, (fun k => l.contains k) i = true → ops[i]? = some o → FreeAt P G (T 0) o (H' k))
    (hK2 : Q .normal (T' ops.size) (H' ops.size)) (hdf : noDefer ops.toList = true) (ro : Option Nat) (nn : Nat) (σ0 : Sig) (H0 : AHeap) (w0 : World) (σ : Sig) (a : Act) (w : World) (s : Sim G σ t H a w) (x : Ext σ0 H0 w0 σ H w) : (Code.region id ops true).wpIn (wr ro) nn P (CPost G σ0 H0 w0 Q) a w := by
  have ord := Ord.ofL hord
  have hun : ∀ i, (Array.replicate ops.size false).getD i false = false := fun i => by
    simp only [Array.getD_eq_getD_getElem?, Array.getElem?_replicate]
    split <;> rfl
  have hw0 : ({ w with drawn := w.drawn + 1 } : World).heap = w.heap := rfl
  have s0 : SimL G (fun k => l.contains k) ops (Array.replicate ops.size false) σ (T 0) (Hh 0) a { w with drawn := w.drawn + 1 } := by
    rw [e1, e2]
    refine ⟨s.defers, s.size.trans hlen.symm, fun q hq hL => ?_, s.rel.drew hw0⟩
    rw [hsame q fun p hp hd => ?_]
    · exact (s.tmps q (by rw [← hlen]; exact hq)).drew hw0
    · -- a late one writes q: it would have come up already
      have gen : ∀ (lst : List Oper) (k0 : Nat), p ∈ lateL (fun k => l.contains k) ops k0 lst → ∃ j o, lst[j]? = some o ∧ (fun k => l.contains k) (k0 + j) = true ∧ p = slim ops o := by
        intro lst
        induction lst with
        | nil => intro k0 h; simp [lateL] at h
        | cons o r ih =>
          intro k0 h
          simp only [lateL] at h
          split at h
          · rename_i hL0
            rcases List.mem_cons.1 h with rfl | h
            · exact ⟨0, o, rfl, by simpa using hL0, rfl⟩
            · obtain ⟨j, o', h1, h2, h3⟩ := ih (k0 + 1) h
              exact ⟨j + 1, o', by simpa using h1, by rw [show k0 + (j + 1) = k0 + 1 + j from by omega]; exact h2, h3⟩
          · obtain ⟨j, o', h1, h2, h3⟩ := ih (k0 + 1) h
            exact ⟨j + 1, o', by simpa using h1, by rw [show k0 + (j + 1) = k0 + 1 + j from by omega]; exact h2, h3⟩
      obtain ⟨j, o, g1, g2, rfl⟩ := gen _ m hp
      have g3 : ops[m + j]? = some o := by
        rw [List.getElem?_drop] at g1
        simpa using g1
      have hgd := (ord.lge (m + j) o g2 g3).2
      have hdo : o.dst = some q := by simpa [slim, hgd] using hd
      have := hL (m + j) o g2 g3 hdo
      rw [hun] at this
      cases this
  refine region_any hmix hdf (draw_late (Q := nrm (CPost G σ0 H0 w0 Q)) (σ0 := σ) (w0 := { w with drawn := w.drawn + 1 }) ord hst' ht f1 f2 hbar hfr0 hfr (fun σ2 a2 w2 s2 x2 => ⟨rfl, _, _, σ2, hK2, s2, x.trans ?_⟩) ops.size _ a _ σ (DInv.start ord hst' s0) ?_)
  · rw [e2] at x2
    exact (Ext.drew (w := w) (w' := { w with drawn := w.drawn + 1 }) rfl rfl rfl rfl).trans x2
  · refine Nat.le_trans (List.length_filter_le _ _) ?_
    simp
/-- Two runs of the tail, as one. -/
theorem tail_two {L : Nat → Bool} {ops : Array Oper} {m kb : Nat} (hm : m ≤ kb) (hk : kb ≤ ops.size) {T2 T3 : Nat → List AV} {H2 H3 : Nat → AHeap}
    (h2 : ∀ j o, ((ops.toList.drop m).take (kb - m))[j]? = some o → if L (m + j) = true then T2 (j + 1) = T2 j ∧ H2 (j + 1) = H2 j else StepF P G ops o (T2 j) (T2 (j + 1)) (H2 j) (H2 (j + 1)))
    (h3 : ∀ j o, ((ops.toList.drop m).drop (kb - m))[j]? = some o → if L (m + (kb - m) + j) = true then T3 (j + 1) = T3 j ∧ H3 (j + 1) = H3 j else StepF P G ops o (T3 j) (T3 (j + 1)) (H3 j) (H3 (j + 1)))
    (e1 : T3 0 = T2 (kb - m)) (e2 : H3 0 = H2 (kb - m)) :
    ∃ (T' : Nat → List AV) (H' : Nat → AHeap), TailRun P G L ops m T' H' ∧ T' m = T2 0 ∧ H' m = H2 0 ∧ (∀ k, m ≤ k → k ≤ kb → H' k = H2 (k - m)) ∧ T' ops.size = T3 (ops.size - kb) ∧ H' ops.size = H3 (ops.size - kb) := by
  refine ⟨fun k => if k < kb then T2 (k - m) else T3 (k - kb), fun k => if k < kb then H2 (k - m) else H3 (k - kb), fun k hkm o ho => ?_, ?_, ?_, fun k h1 h4 => ?_, ?_, ?_⟩
  · by_cases hlt : k < kb
    · have := h2 (k - m) o (by rw [List.getElem?_take, if_pos (by omega), List.getElem?_drop, show m + (k - m) = k from by omega]; simpa using ho)
      rw [show m + (k - m) = k from by omega] at this
      have ea : (if k + 1 < kb then T2 (k + 1 - m) else T3 (k + 1 - kb)) = T2 (k - m + 1) := by
        by_cases h : k + 1 < kb
        · rw [if_pos h, show k + 1 - m = k - m + 1 from by omega]
        · rw [if_neg h, show k + 1 - kb = 0 from by omega, e1, show kb - m = k - m + 1 from by omega]
      have eb : (if k + 1 < kb then H2 (k + 1 - m) else H3 (k + 1 - kb)) = H2 (k - m + 1) := by
        by_cases h : k + 1 < kb
        · rw [if_pos h, show k + 1 - m = k - m + 1 from by omega]
        · rw [if_neg h, show k + 1 - kb = 0 from by omega, e2, show kb - m = k - m + 1 from by omega]
      simp only [ea, eb, hlt, if_true]
      exact this
    · have := h3 (k - kb) o (by rw [List.getElem?_drop, List.getElem?_drop, show m + (kb - m + (k - kb)) = k from by omega]; simpa using ho)
      rw [show m + (kb - m) + (k - kb) = k from by omega] at this
      have h5 : ¬ k + 1 < kb := by omega
      simp only [hlt, h5, if_false, show k + 1 - kb = k - kb + 1 from by omega]
      exact this
  · by_cases h : m < kb
    · simp only [h, if_true, Nat.sub_self]
    · obtain rfl : kb = m := by omega
      simp only [Nat.lt_irrefl, if_false, Nat.sub_self]
      rw [e1, Nat.sub_self]
  · by_cases h : m < kb
    · simp only [h, if_true, Nat.sub_self]
    · obtain rfl : kb = m := by omega
      simp only [Nat.lt_irrefl, if_false, Nat.sub_self]
      rw [e2, Nat.sub_self]
  · by_cases h : k < kb
    · simp only [h, if_true]
    · obtain rfl : kb = k := by omega
      simp only [Nat.lt_irrefl, if_false, Nat.sub_self]
      exact e2
  · have h : ¬ ops.size < kb := by omega
    simp only [h, if_false]
  · have h : ¬ ops.size < kb := by omega
    simp only [h, if_false]
/-- A region some of whose operations come late: they are looked at first. -/
theorem lavc_regl (hG : GN G) {ls pre mid post : List LOp} (tL : List AV) (hlen : tL.length = t.length) (hsame : ∀ s, (∀ o ∈ ls, o.d ≠ some s) → tL.getD s .any = t.getD s .any) (hf : lfrees P G tL ls)
    (h : lops P G true pre tL H fun t' H' => lopsN P G mid t' H' fun t' H' => lopsN P G post t' H' (Q .normal)) : lavc P G (.regl ls pre mid post) t H Q := by
  intro imp c hc hmix ro nn σ0 H0 w0 σ a w s x
  obtain ⟨id, ops, m, l, rfl, hdf, hord, rfl, rfl, rfl, rfl⟩ := strip_regl hc
  have ord := Ord.ofL hord
  obtain ⟨b1, b2, b3⟩ := barOf_ok (l := l) ord.le
  generalize barOf ops m l = kb at *
  obtain ⟨T, Hh, V, e1, e2, hK, hst⟩ := lops_run h
  have hlen1 : (ops.toList.take m).length = m := by rw [List.length_take]; simp; omega
  rw [hlen1] at hK
  obtain ⟨T2, H2, f1, f2, hK2, hst2⟩ := lopsN_run hK
  have hlen2 : ((ops.toList.drop m).take (kb - m)).length = kb - m := by rw [List.length_take, List.length_drop]; simp; omega
  rw [hlen2] at hK2
  obtain ⟨T3, H3, g1, g2, hK3, hst3⟩ := lopsN_run hK2
  have hlen3 : ((ops.toList.drop m).drop (kb - m)).length = ops.size - kb := by rw [List.length_drop, List.length_drop]; simp; omega
  rw [hlen3] at hK3
  obtain ⟨T', H', ht, i1, i2, i3, i4, i5⟩ := tail_two b1 b2 hst2 hst3 g1 g2
  have hst' : ∀ i, i < m → ∀ o, ops[i]? = some o → StepAt P G ops o (T i) (T (i + 1)) (Hh i) (Hh (i + 1)) (V i) := fun i hi o ho => hst i o (by rw [List.getElem?_take, if_pos hi]; simpa using ho)
  have hfr : ∀ i o, (fun k => l.contains k) i = true → ops[i]? = some o → Free P G (T 0) o := fun i o hL ho => by
    obtain ⟨hmi, hgd⟩ := ord.lge i o hL ho
    rw [e1]
    exact lfrees_at (L := fun k => l.contains k) hf (i - m) o (by rw [List.getElem?_drop, show m + (i - m) = i from by omega]; simpa using ho) (by rw [show m + (i - m) = i from by omega]; exact hL) hgd
  exact regl_core hmix hord hlen hsame e1 e2 hst' ht (i1.trans f1) (i2.trans f2) (kb := kb) (fun hk => ⟨(b3 hk).1, fun j hj _ => (b3 hk).2 j hj⟩) (fun i o hL ho => (hfr i o hL ho).at_ hG _) (fun k _ _ _ i o hL ho => (hfr i o hL ho).at_ hG _) (by rw [i4, i5]; exact hK3) hdf ro nn σ0 H0 w0 σ a w s x
/-- The same; what is late is looked at wherever it may come up. -/
theorem lavc_regq {ls pre mid post : List LOp} (tL : List AV) (hlen : tL.length = t.length) (hsame : ∀ s, (∀ o ∈ ls, o.d ≠ some s) → tL.getD s .any = t.getD s .any) (hf : lfreesAt P G tL ls H)
    (h : lops P G true pre tL H fun t' H' => lopsF P G (lfreesAt P G tL ls) mid t' H' fun t' H' => lopsN P G post t' H' (Q .normal)) : lavc P G (.regl ls pre mid post) t H Q := by
  intro imp c hc hmix ro nn σ0 H0 w0 σ a w s x
  obtain ⟨id, ops, m, l, rfl, hdf, hord, rfl, rfl, rfl, rfl⟩ := strip_regl hc
  have ord := Ord.ofL hord
  obtain ⟨b1, b2, b3⟩ := barOf_ok (l := l) ord.le
  generalize barOf ops m l = kb at *
  obtain ⟨T, Hh, V, e1, e2, hK, hst⟩ := lops_run h
  have hlen1 : (ops.toList.take m).length = m := by rw [List.length_take]; simp; omega
  rw [hlen1] at hK
  obtain ⟨T2, H2, f1, f2, hK2, hFF, hst2⟩ := lopsF_run hK
  have hlen2 : ((ops.toList.drop m).take (kb - m)).length = kb - m := by rw [List.length_take, List.length_drop]; simp; omega
  rw [hlen2] at hK2 hFF
  obtain ⟨T3, H3, g1, g2, hK3, hst3⟩ := lopsN_run hK2
  have hlen3 : ((ops.toList.drop m).drop (kb - m)).length = ops.size - kb := by rw [List.length_drop, List.length_drop]; simp; omega
  rw [hlen3] at hK3
  obtain ⟨T', H', ht, i1, i2, i3, i4, i5⟩ := tail_two b1 b2 hst2 hst3 g1 g2
  have hst' : ∀ i, i < m → ∀ o, ops[i]? = some o → StepAt P G ops o (T i) (T (i + 1)) (Hh i) (Hh (i + 1)) (V i) := fun i hi o ho => hst i o (by rw [List.getElem?_take, if_pos hi]; simpa using ho)
  have hfr : ∀ HH, lfreesAt P G tL (lateL (fun k => l.contains k) ops m (ops.toList.drop m)) HH → ∀ i o, (fun k => l.contains k) i = true → ops[i]? = some o → FreeAt P G (T 0) o HH := fun HH hF i o hL ho => by
    obtain ⟨hmi, hgd⟩ := ord.lge i o hL ho
    rw [e1]
    exact lfreesAt_at (L := fun k => l.contains k) hF (i - m) o (by rw [List.getElem?_drop, show m + (i - m) = i from by omega]; simpa using ho) (by rw [show m + (i - m) = i from by omega]; exact hL) hgd
  exact regl_core hmix hord hlen hsame e1 e2 hst' ht (i1.trans f1) (i2.trans f2) (kb := kb) (fun hk => ⟨(b3 hk).1, fun j hj _ => (b3 hk).2 j hj⟩) (hfr _ (by rw [e2]; exact hf)) (fun k h1 h2 _ => hfr _ (by rw [i3 k h1 h2]; exact hFF _ (by omega))) (by rw [i4, i5]; exact hK3) hdf ro nn σ0 H0 w0 σ a w s x
theorem lavc_reg0 {pre post : List LOp} (h : lreg P G pre post t H (Q .normal)) : lavc P G (.reg pre post) t H Q := by
  intro imp c hc hmix ro nn σ0 H0 w0 σ a w s x
  obtain ⟨id, ops, draw, rfl, hdf, hf, ht⟩ := strip_reg hc
  cases draw with
  | false =>
    obtain ⟨rfl, rfl⟩ := hf rfl
    obtain ⟨gs, bs, h⟩ := h
    obtain ⟨t0, H0', h, s, x0⟩ := agh_ok h s
    obtain ⟨t1, H1, σ1, h, s, x1⟩ := afz_ok h s
    exact region_list hdf (lops_list (l := ops.toList) h σ1 a w s fun t' H' σ' a' w' k1 k2 k3 => ⟨rfl, t', H', σ', k1, k2, x.trans (x0.trans (x1.trans k3))⟩)
  | true =>
    obtain ⟨hord, rfl, rfl⟩ := ht rfl
    obtain ⟨gs, bs, h⟩ := h
    obtain ⟨t0, H0', h, s, x0⟩ := agh_ok h s
    obtain ⟨t1, H1, σ1, h, s, x1⟩ := afz_ok h s
    have x := x.trans (x0.trans x1)
    clear x1 x0
    have ord := Ord.of hord
    obtain ⟨T, Hh, V, e1, e2, hK, hst⟩ := lops_run h
    generalize hm : mOf P imp ops.toList = m at *
    have hlen : (ops.toList.take m).length = m := by rw [List.length_take]; have := ord.le; simp; omega
    rw [hlen] at hK
    have hst' : ∀ i, i < m → ∀ o, ops[i]? = some o → StepAt P G ops o (T i) (T (i + 1)) (Hh i) (Hh (i + 1)) (V i) := fun i hi o ho => hst i o (by rw [List.getElem?_take, if_pos hi]; simpa using ho)
    have hw0 : ({ w with drawn := w.drawn + 1 } : World).heap = w.heap := rfl
    have s0 : Sim G σ1 (T 0) (Hh 0) a { w with drawn := w.drawn + 1 } := by
      rw [e1, e2]
      exact ⟨s.defers, s.size, fun j hj => (s.tmps j hj).drew hw0, s.rel.drew hw0⟩
    refine region_any hmix hdf (draw_any (σ0 := σ1) (w0 := { w with drawn := w.drawn + 1 }) ord hst' (fun σ2 a2 w2 s2 x2 => ?_) ops.size _ a _ σ1 (DInv.start ord hst' s0.lift) _ rfl ?_)
    · refine lops_list (l := ops.toList.drop m) hK σ2 a2 w2 s2 fun t' H' σ' a' w' k1 k2 k3 => ⟨rfl, t', H', σ', k1, k2, x.trans ?_⟩
      rw [e2] at x2
      exact (Ext.drew (w := w) (w' := { w with drawn := w.drawn + 1 }) rfl rfl rfl rfl).trans (x2.trans k3)
    · have : ((List.range m).filter fun i => !(Array.replicate ops.size false).getD i false).length ≤ m := by
        refine Nat.le_trans (List.length_filter_le _ _) ?_
        simp
      have := ord.le
      omega
theorem lavc_skip (h : Q .normal t H) : lavc P G .skip t H Q := by
  intro imp c hc hmix ro nn σ0 H0 w0 σ a w s x
  cases c with
  | skip => exact wpIn_skip ⟨t, H, σ, h, s, x⟩
  | label l => exact wpIn_label ⟨t, H, σ, h, s, x⟩
  | region id ops draw => rcases no_reg hc with ⟨_, _, e⟩ | ⟨_, _, _, _, e⟩ | e <;> cases e
  | _ => simp only [strip, reduceCtorEq] at hc
theorem lavc_exit {id : Nat} (h : Q (.exit id) t H) : lavc P G (.exit id) t H Q := by
  intro imp c hc hmix ro nn σ0 H0 w0 σ a w s x
  cases c with
  | exit i =>
    simp only [strip, LCode.exit.injEq] at hc
    subst hc
    exact wpIn_exit ⟨t, H, σ, h, s, x⟩
  | region id ops draw => rcases no_reg hc with ⟨_, _, e⟩ | ⟨_, _, _, _, e⟩ | e <;> cases e
  | _ => simp only [strip, reduceCtorEq] at hc
theorem lavc_ret (h : Q .ret t H) : lavc P G .ret t H Q := by
  intro imp c hc hmix ro nn σ0 H0 w0 σ a w s x
  cases c with
  | ret => exact wpIn_ret ⟨t, H, σ, h, s, x⟩
  | region id ops draw => rcases no_reg hc with ⟨_, _, e⟩ | ⟨_, _, _, _, e⟩ | e <;> cases e
  | _ => simp only [strip, reduceCtorEq] at hc
theorem lavc_seq {a b : LCode} (h : lavc P G a t H fun e t' H' => match e with
    | .normal => lavc P G b t' H' Q
    | e => Q e t' H') : lavc P G (.seq a b) t H Q := by
  intro imp c hc hmix ro nn σ0 H0 w0 σ ac w s x
  cases c with
  | seq c d =>
    simp only [strip, LCode.seq.injEq] at hc
    obtain ⟨hc1, hc2⟩ := hc
    refine wpIn_seq (Code.wpIn_mono (fun e a' w' hq => ?_) (h imp c hc1 hmix ro nn σ0 H0 w0 σ ac w s x))
    obtain ⟨t', H', σ', k1, k2, k3⟩ := hq
    cases e with
    | normal => exact k1 imp d hc2 hmix ro nn σ0 H0 w0 σ' a' w' k2 k3
    | _ => exact ⟨t', H', σ', k1, k2, k3⟩
  | region id ops draw => rcases no_reg hc with ⟨_, _, e⟩ | ⟨_, _, _, _, e⟩ | e <;> cases e
  | _ => simp only [strip, reduceCtorEq] at hc
theorem strip_cond {c : Code} {o : Operand} {a b : LCode} (hc : strip P imp c = .cond o a b) : ∃ x y, c = .cond o x y ∧ strip P imp x = a ∧ strip P imp y = b := by
  cases c with
  | cond o' x y =>
    simp only [strip, LCode.cond.injEq] at hc
    obtain ⟨rfl, h1, h2⟩ := hc
    exact ⟨_, _, rfl, h1, h2⟩
  | region id ops draw => rcases no_reg hc with ⟨_, _, e⟩ | ⟨_, _, _, _, e⟩ | e <;> cases e
  | _ => simp only [strip, reduceCtorEq] at hc
theorem lavc_cond {c : Operand} {a b : LCode} {x : Bool} (hx : aenv G t c = .v (.bool x)) (h1 : x = true → lavc P G a t H Q) (h2 : x = false → lavc P G b t H Q) : lavc P G (.cond c a b) t H Q := by
  intro imp c0 hc hmix ro nn σ0 H0 w0 σ ac w s xt
  obtain ⟨ca, cb, rfl, e1, e2⟩ := strip_cond hc
  have hv := s.env c
  rw [hx] at hv
  have hv : ac.eval c = .bool x := by
    generalize ac.eval c = u at *
    cases hv
    rfl
  exact wpIn_cond_split hv (fun hb => h1 hb imp ca e1 hmix ro nn σ0 H0 w0 σ ac w s xt) (fun hb => h2 hb imp cb e2 hmix ro nn σ0 H0 w0 σ ac w s xt)
theorem lavc_condU {c : Operand} {a b : LCode} (hx : aenv G t c = .ub) (h1 : lavc P G a t H Q) (h2 : lavc P G b t H Q) : lavc P G (.cond c a b) t H Q := by
  intro imp c0 hc hmix ro nn σ0 H0 w0 σ ac w s xt
  obtain ⟨ca, cb, rfl, e1, e2⟩ := strip_cond hc
  have hv := s.env c
  rw [hx] at hv
  obtain ⟨x, hv⟩ : ∃ x, ac.eval c = .bool x := by
    generalize ac.eval c = u at *
    cases hv
    exact ⟨_, rfl⟩
  exact wpIn_cond_split hv (fun hb => h1 imp ca e1 hmix ro nn σ0 H0 w0 σ ac w s xt) (fun hb => h2 imp cb e2 hmix ro nn σ0 H0 w0 σ ac w s xt)
theorem lavc_block {id : Nat} {c : LCode} (h : lavc P G c t H fun e t' H' => match e with
    | .exit i => if i = id then Q .normal t' H' else Q (.exit i) t' H'
    | e => Q e t' H') : lavc P G (.block id c) t H Q := by
  intro imp c0 hc hmix ro nn σ0 H0 w0 σ a w s x
  cases c0 with
  | block id' c' =>
    simp only [strip, LCode.block.injEq] at hc
    obtain ⟨rfl, hc⟩ := hc
    refine wpIn_block (Code.wpIn_mono (fun e a' w' hq => ?_) (h imp c' hc hmix ro nn σ0 H0 w0 σ a w s x))
    obtain ⟨t', H', σ', k1, k2, k3⟩ := hq
    cases e with
    | exit i =>
      simp only [Exit.inBlock]
      simp only at k1
      by_cases hi : i = id'
      · rw [if_pos hi] at k1 ⊢
        exact ⟨t', H', σ', k1, k2, k3⟩
      · rw [if_neg hi] at k1 ⊢
        exact ⟨t', H', σ', k1, k2, k3⟩
    | _ => exact ⟨t', H', σ', k1, k2, k3⟩
  | region id ops draw => rcases no_reg hc with ⟨_, _, e⟩ | ⟨_, _, _, _, e⟩ | e <;> cases e
  | _ => simp only [strip, reduceCtorEq] at hc
theorem lavc_loop0 {c : LCode} {X : Type} (I : Nat → X → Prop) (mk : X → List AV) (hp : X → AHeap) (n0 : Nat) (x0 : X) (gs : List (Nat × Nat × TypeId)) (bs : List Nat)
    (h0 : agh gs t H fun t H => afz bs t H fun t H => I n0 x0 ∧ ALe t (mk x0) ∧ H = hp x0)
    (h : ∀ n x, I n x → lavc P G c (mk x) (hp x) fun e t' H' => match e with
      | .normal => ∃ n' x', n' < n ∧ I n' x' ∧ ALe t' (mk x') ∧ H' = hp x'
      | e => Q e t' H') : lavc P G (.loop c) t H Q := by
  intro imp c0 hc hmix ro nn σ0 H0 w0 σ a w s x
  cases c0 with
  | loop c' =>
    simp only [strip, LCode.loop.injEq] at hc
    obtain ⟨t0, H0', h0, s, e0⟩ := agh_ok h0 s
    obtain ⟨t1, H1, σ1, h0, s, e1⟩ := afz_ok h0 s
    obtain ⟨hI, hle, rfl⟩ := h0
    refine wpIn_loop_ghost (fun n a' w' => ∃ x' σ', I n x' ∧ Sim G σ' (mk x') (hp x') a' w' ∧ Ext σ0 H0 w0 σ' (hp x') w') n0 ⟨x0, σ1, hI, hle.sim s, x.trans (e0.trans e1)⟩ ?_
    rintro n a' w' ⟨x', σ', hI', s', xt'⟩
    refine Code.wpIn_mono (fun e a2 w2 hq => ?_) (h n x' hI' imp c' hc hmix ro nn σ0 H0 w0 σ' a' w' s' xt')
    obtain ⟨t2, H2, σ2, k1, k2, k3⟩ := hq
    cases e with
    | normal =>
      obtain ⟨n', x2, hlt, hI2, hle2, rfl⟩ := k1
      exact ⟨n', hlt, x2, σ2, hI2, hle2.sim k2, k3⟩
    | _ => exact ⟨t2, H2, σ2, k1, k2, k3⟩
  | region id ops draw => rcases no_reg hc with ⟨_, _, e⟩ | ⟨_, _, _, _, e⟩ | e <;> cases e
  | _ => simp only [strip, reduceCtorEq] at hc
end
/-- What a program is known by. -/
structure Ctx (P : Program) (G : Glob) : Prop where
  nr : GN G
  mix : P.follows .mixedOrders = true
/-- A call, out of its lean body. -/
theorem LCall (ctx : Ctx P G) {imp : FuncId → Bool} {n : FuncId} {fn : Func} {c : Code} {lc : LCode} {rs : List ResultVar} {nt : Nat} (hf : P.funcs[n]? = some fn) (hname : (fn.name == "runtime.NumGoroutine") = false) (hb : fn.body = some c) (hl : strip P imp c = lc) (hr : fn.results.toList = rs) (hnt : fn.ntmps = nt)
    {args : List AV} (hargs : args.length ≤ nt) {H0 : AHeap} (lo : Nat) (hlo : H0.length ≤ lo) {r0 : AV} {H0' : AHeap}
    (h : lavc P G lc (args ++ List.replicate (nt - args.length) (.v undef)) H0 fun e t H => (e = .normal ∨ e = .ret) ∧ aret P t H rs fun r => View lo H r r0 ∧ lo ≤ H.length ∧ (∀ b k, b < lo → H[b]? = some k → ∀ c ∈ k.cells, NR c) ∧ H.take lo = H0') :
    ACall P G (H0.length == 0) n args H0 r0 H0' := by
  subst hl hr hnt
  refine ⟨⟨fn, hf, hname, by rw [hb]; rfl⟩, fun σ w us hu ha rel => calls_of_wp hf hb ?_⟩
  have s : Sim G σ (args ++ List.replicate (fn.ntmps - args.length) (.v undef)) H0 { tmps := us ++ Array.replicate (fn.ntmps - us.size) undef, defers := [] } w := by
    refine ⟨rfl, by simp [hu], fun j hj => ?_, rel⟩
    simp only [List.length_append, List.length_replicate] at hj
    by_cases hja : j < args.length
    · have := ha j hja
      simpa [List.getD_eq_getElem?_getD, List.getElem?_append, Array.getElem?_append, hja, hu] using this
    · have e1 : (args ++ List.replicate (fn.ntmps - args.length) (AV.v undef)).getD j .any = .v undef := by
        rw [List.getD_eq_getElem?_getD, List.getElem?_append_right (by omega), List.getElem?_replicate, if_pos (by omega)]
        rfl
      have e2 : (us ++ Array.replicate (fn.ntmps - us.size) undef).getD j undef = undef := by
        rw [Array.getD_eq_getD_getElem?, Array.getElem?_append, if_neg (by omega), Array.getElem?_replicate, if_pos (by omega)]
        rfl
      rw [e1, e2]
      exact .v _
  refine Code.wp_mono (fun e a w' hq => ?_) (lavc_ok ctx.mix c _ H0 _ h σ H0 w σ _ w s (Ext.refl _ _ _))
  obtain ⟨t, H, σ', ⟨he, hr⟩, s', x⟩ := hq
  obtain ⟨r, u, ⟨hv, hl2, hn, rfl⟩, hrun, hru⟩ := aret_ok s' hr
  have hres := Res.cut ctx.nr rel s'.rel x hlo hl2 hv hru hn
  rcases he with rfl | rfl <;> exact ⟨s'.defers, u, hrun, u, rfl, hres⟩
theorem LCall' (ctx : Ctx P G) {imp : FuncId → Bool} {n : FuncId} {fn : Func} {lc : LCode} {rs : List ResultVar} {nt : Nat} (hf : P.funcs[n]? = some fn) (hname : (fn.name == "runtime.NumGoroutine") = false) (hl : fn.body.map (strip P imp) = some lc) (hr : fn.results.toList = rs) (hnt : fn.ntmps = nt)
    {args : List AV} (hargs : args.length ≤ nt) {H0 : AHeap} (lo : Nat) (hlo : H0.length ≤ lo) {r0 : AV} {H0' : AHeap}
    (h : lavc P G lc (args ++ List.replicate (nt - args.length) (.v undef)) H0 fun e t H => (e = .normal ∨ e = .ret) ∧ aret P t H rs fun r => View lo H r r0 ∧ lo ≤ H.length ∧ (∀ b k, b < lo → H[b]? = some k → ∀ c ∈ k.cells, NR c) ∧ H.take lo = H0') :
    ACall P G (H0.length == 0) n args H0 r0 H0' := by
  obtain ⟨c, hb, hl⟩ := Option.map_eq_some_iff.1 hl
  exact LCall ctx hf hname hb hl hr hnt hargs lo hlo h
/-- The same, with all that it made. -/
theorem LCallK (ctx : Ctx P G) {imp : FuncId → Bool} {n : FuncId} {fn : Func} {c : Code} {lc : LCode} {rs : List ResultVar} {nt : Nat} (hf : P.funcs[n]? = some fn) (hname : (fn.name == "runtime.NumGoroutine") = false) (hb : fn.body = some c) (hl : strip P imp c = lc) (hr : fn.results.toList = rs) (hnt : fn.ntmps = nt)
    {args : List AV} (hargs : args.length ≤ nt) {H0 : AHeap} {r0 : AV} {H0' : AHeap}
    (h : lavc P G lc (args ++ List.replicate (nt - args.length) (.v undef)) H0 fun e t H => (e = .normal ∨ e = .ret) ∧ aret P t H rs fun r => r = r0 ∧ H = H0') :
    ACall P G false n args H0 r0 H0' := by
  subst hl hr hnt
  refine ⟨⟨fn, hf, hname, by rw [hb]; rfl⟩, fun σ w us hu ha rel => calls_of_wp hf hb ?_⟩
  have s : Sim G σ (args ++ List.replicate (fn.ntmps - args.length) (.v undef)) H0 { tmps := us ++ Array.replicate (fn.ntmps - us.size) undef, defers := [] } w := by
    refine ⟨rfl, by simp [hu], fun j hj => ?_, rel⟩
    simp only [List.length_append, List.length_replicate] at hj
    by_cases hja : j < args.length
    · have := ha j hja
      simpa [List.getD_eq_getElem?_getD, List.getElem?_append, Array.getElem?_append, hja, hu] using this
    · have e1 : (args ++ List.replicate (fn.ntmps - args.length) (AV.v undef)).getD j .any = .v undef := by
        rw [List.getD_eq_getElem?_getD, List.getElem?_append_right (by omega), List.getElem?_replicate, if_pos (by omega)]
        rfl
      have e2 : (us ++ Array.replicate (fn.ntmps - us.size) undef).getD j undef = undef := by
        rw [Array.getD_eq_getD_getElem?, Array.getElem?_append, if_neg (by omega), Array.getElem?_replicate, if_pos (by omega)]
        rfl
      rw [e1, e2]
      exact .v _
  refine Code.wp_mono (fun e a w' hq => ?_) (lavc_ok ctx.mix c _ H0 _ h σ H0 w σ _ w s (Ext.refl _ _ _))
  obtain ⟨t, H, σ', ⟨he, hr⟩, s', x⟩ := hq
  obtain ⟨r, u, ⟨rfl, rfl⟩, hrun, hru⟩ := aret_ok s' hr
  rcases he with rfl | rfl <;> exact ⟨s'.defers, u, hrun, u, rfl, σ', hru, s'.rel, x, fun h => by cases h⟩
theorem LCallK' (ctx : Ctx P G) {imp : FuncId → Bool} {n : FuncId} {fn : Func} {lc : LCode} {rs : List ResultVar} {nt : Nat} (hf : P.funcs[n]? = some fn) (hname : (fn.name == "runtime.NumGoroutine") = false) (hl : fn.body.map (strip P imp) = some lc) (hr : fn.results.toList = rs) (hnt : fn.ntmps = nt)
    {args : List AV} (hargs : args.length ≤ nt) {H0 : AHeap} {r0 : AV} {H0' : AHeap}
    (h : lavc P G lc (args ++ List.replicate (nt - args.length) (.v undef)) H0 fun e t H => (e = .normal ∨ e = .ret) ∧ aret P t H rs fun r => r = r0 ∧ H = H0') :
    ACall P G false n args H0 r0 H0' := by
  obtain ⟨c, hb, hl⟩ := Option.map_eq_some_iff.1 hl
  exact LCallK ctx hf hname hb hl hr hnt hargs h
theorem lops_step {q : Bool} {o : LOp} {rest : List LOp} {t : List AV} {H : AHeap} {K : List AV → AHeap → Prop}
    (h : ∀ K' : List AV → AHeap → Prop, (∀ t H, lops P G q rest t H K → K' t H) → lguard t o.g (aopO P G q (nxL rest) (aenv G t) H o.op fun r H' => K' (tput t o.d r) H') (K' (tput t o.d (.v undef)) H)) : lops P G q (o :: rest) t H K :=
  ⟨[], fun _ => rfl, h _ fun _ _ h => h⟩
theorem lopsN_step {o : LOp} {rest : List LOp} {t : List AV} {H : AHeap} {K : List AV → AHeap → Prop}
    (h : ∀ K' : List AV → AHeap → Prop, (∀ t H, lopsN P G rest t H K → K' t H) → lguard t o.g (aopO P G false (nxL rest) (aenv G t) H o.op fun r H' => K' (tput t o.d r) H') (K' (tput t o.d (.v undef)) H)) : lopsN P G (o :: rest) t H K := h _ fun _ _ h => h
theorem lopsN_nil {t : List AV} {H : AHeap} {K : List AV → AHeap → Prop} (h : K t H) : lopsN P G [] t H K := h
theorem lops_fz (bs : List Nat) {o : LOp} {rest : List LOp} {t : List AV} {H : AHeap} {K : List AV → AHeap → Prop}
    (h : afz bs t H fun t H => ∀ K' : List AV → AHeap → Prop, (∀ t H, lops P G false rest t H K → K' t H) → lguard t o.g (aopO P G false (nxL rest) (aenv G t) H o.op fun r H' => K' (tput t o.d r) H') (K' (tput t o.d (.v undef)) H)) : lops P G false (o :: rest) t H K :=
  ⟨bs, (fun h => by cases h), afz_mono (fun t H h => h _ fun _ _ h => h) h⟩
end Go.Abs
