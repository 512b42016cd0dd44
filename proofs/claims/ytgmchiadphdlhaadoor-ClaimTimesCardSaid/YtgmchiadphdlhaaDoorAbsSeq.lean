/- Rows of operations: in their order, and in whatever order. -/
import Derived.Test.YtgmchiadphdlhaaDoorAbsExec
import Derived.Orders
namespace Go.Abs
set_option linter.unusedVariables false
set_option linter.unusedSimpArgs false
variable {P : Program} {G : Glob} {σ : Sig} {H : AHeap} {w : World}
def tput (t : List AV) (d : Option Tmp) (r : AV) : List AV :=
  match d with
  | some d => t.set d r
  | none => t
theorem tput_length (t : List AV) (d : Option Tmp) (r : AV) : (tput t d r).length = t.length := by cases d <;> simp [tput]
structure Sim (G : Glob) (σ : Sig) (t : List AV) (H : AHeap) (a : Act) (w : World) : Prop where
  defers : a.defers = []
  size : a.tmps.size = t.length
  tmps : ∀ j, j < t.length → AR σ w (t.getD j .any) (a.tmps.getD j undef)
  rel : Rel G σ H w
theorem Sim.env {t : List AV} {a : Act} (s : Sim G σ t H a w) (x : Operand) : AR σ w (aenv G t x) (a.eval x) := by
  cases x with
  | tmp i =>
    by_cases h : i < t.length
    · exact s.tmps i h
    · have : aenv G t (.tmp i) = .any := by simp [aenv, List.getD_eq_getElem?_getD, List.getElem?_eq_none (Nat.le_of_not_lt h)]
      rw [this]
      exact .any _
  | const c => exact toAV_ar c
  | global g => exact s.rel.glob g
  | func f => exact .fn #[] rfl (fun j hj => by simp at hj)
theorem put_getD (a : Act) (d : Option Tmp) (u : Value) (j : Nat) (hj : j < a.tmps.size) : (a.put d u).tmps.getD j undef = if d = some j then u else a.tmps.getD j undef := by
  cases d with
  | none => simp [Act.put]
  | some d =>
    simp only [Act.put, Option.some.injEq, Array.getD_eq_getD_getElem?, Array.getElem?_setIfInBounds]
    by_cases h : d = j
    · subst h
      simp [hj]
    · simp [h]
theorem tput_getD (t : List AV) (d : Option Tmp) (r : AV) (j : Nat) (hj : j < t.length) : (tput t d r).getD j .any = if d = some j then r else t.getD j .any := by
  cases d with
  | none => simp [tput]
  | some d =>
    simp only [tput, Option.some.injEq, List.getD_eq_getElem?_getD, List.getElem?_set]
    by_cases h : d = j
    · subst h
      simp [hj]
    · simp [h]
theorem Act.put_size (a : Act) (d : Option Tmp) (u : Value) : (a.put d u).tmps.size = a.tmps.size := by cases d <;> simp [Act.put]
theorem Act.put_def (a : Act) (d : Option Tmp) (u : Value) : (a.put d u).defers = a.defers := by cases d <;> simp [Act.put]
theorem Sim.put {t : List AV} {a : Act} (s : Sim G σ t H a w) {q : Bool} {d : Option Tmp} {r : AV} {H' : AHeap} {u : Value} {w' : World} {σ' : Sig} (h1 : AR σ' w' r u) (h2 : Rel G σ' H' w') (h3 : Ext σ H w σ' H' w') :
    Sim G σ' (tput t d r) H' (a.put d u) w' := by
  refine ⟨(Act.put_def _ _ _).trans s.defers, by rw [Act.put_size, tput_length]; exact s.size, fun j hj => ?_, h2⟩
  rw [tput_length] at hj
  rw [tput_getD _ _ _ _ hj, put_getD _ _ _ _ (by rw [s.size]; exact hj)]
  split
  · exact h1
  · exact (s.tmps j hj).ext s.rel h3
/-- Whether an operation is wanted. -/
def aguard (ops : Array Oper) (t : List AV) (o : Oper) (K1 K2 : Prop) : Prop :=
  match o.guard with
  | none => K1
  | some (g, want) => match (ops[g]?).bind (·.dst) with
    | some d => match t.getD d .any with
      | .v (.bool c) => (c = want → K1) ∧ (c = !want → K2)
      | .v (.tuple _) => K2
      | _ => False
    | none => False
theorem aguard_ok {ops : Array Oper} {t : List AV} {o : Oper} {K1 K2 : Prop} (h : aguard ops t o K1 K2) :
    ∃ wd : Bool, (if wd then K1 else K2) ∧ ∀ (σ : Sig) (w : World) (a : Act), (∀ g want d, o.guard = some (g, want) → (ops[g]?).bind (·.dst) = some d → AR σ w (t.getD d .any) (a.tmps.getD d undef) ∧ (d < a.tmps.size ∨ t.getD d .any = .any)) → Region.wanted o (yielded ops a.tmps) = wd := by
  unfold aguard at h
  cases hg : o.guard with
  | none =>
    simp only [hg] at h
    exact ⟨true, h, fun σ w a _ => by simp [Region.wanted, hg]⟩
  | some gw =>
    obtain ⟨g, want⟩ := gw
    simp only [hg] at h
    cases hd : (ops[g]?).bind (·.dst) with
    | none => simp [hd] at h
    | some d =>
      simp only [hd] at h
      cases hv : t.getD d .any with
      | v y =>
        rw [hv] at h
        cases y with
        | bool c =>
          simp only at h
          refine ⟨c == want, ?_, fun σ w a hx => ?_⟩
          · by_cases hc : c = want
            · simp only [hc, beq_self_eq_true, if_true]
              exact h.1 hc
            · have : (c == want) = false := by simp [hc]
              rw [this]
              exact h.2 (by cases c <;> cases want <;> simp_all)
          · obtain ⟨h1, h2⟩ := hx g want d rfl hd
            rw [hv] at h1 h2
            have hlt : d < a.tmps.size := h2.resolve_right (by simp)
            have h3 : a.tmps[d]? = some (a.tmps.getD d undef) := getD_lt hlt
            generalize a.tmps.getD d undef = u at *
            cases h1
            simp [Region.wanted, hg, yielded, hd, h3]
        | tuple us =>
          simp only at h
          refine ⟨false, by simpa using h, fun σ w a hx => ?_⟩
          obtain ⟨h1, h2⟩ := hx g want d rfl hd
          rw [hv] at h1 h2
          have hlt : d < a.tmps.size := h2.resolve_right (by simp)
          have h3 : a.tmps[d]? = some (a.tmps.getD d undef) := getD_lt hlt
          generalize a.tmps.getD d undef = u at *
          cases h1
          simp [Region.wanted, hg, yielded, hd, h3]
        | _ => exact h.elim
      | _ => rw [hv] at h; exact h.elim
/-- Operations, one behind the other. -/
def aops (P : Program) (G : Glob) (q : Bool) (ops : Array Oper) : List Oper → List AV → AHeap → (List AV → AHeap → Prop) → Prop
  | [], t, H, K => K t H
  | o :: rest, t, H, K => aguard ops t o (aop P G q (nxOf rest) (aenv G t) H o fun r H' => aops P G q ops rest (tput t o.dst r) H' K) (aops P G q ops rest (tput t o.dst (.v undef)) H K)
theorem sim_guard {t : List AV} {a : Act} (s : Sim G σ t H a w) (d : Tmp) : AR σ w (t.getD d .any) (a.tmps.getD d undef) ∧ (d < a.tmps.size ∨ t.getD d .any = .any) := by
  by_cases h : d < t.length
  · exact ⟨s.tmps d h, .inl (by rw [s.size]; exact h)⟩
  · have : t.getD d .any = .any := by simp [List.getD_eq_getElem?_getD, List.getElem?_eq_none (Nat.le_of_not_lt h)]
    rw [this]
    exact ⟨.any _, .inr rfl⟩
theorem aops_list {ops : Array Oper} {Q : Exit → Act → World → Prop} : ∀ {l : List Oper} {t : List AV} {H : AHeap} {K : List AV → AHeap → Prop}, aops P G false ops l t H K → ∀ (σ : Sig) (a : Act) (w : World), Sim G σ t H a w →
    (∀ t' H' σ' a' w', K t' H' → Sim G σ' t' H' a' w' → Ext σ H w σ' H' w' → Q .normal a' w') → wpList P ops Q l a w
  | [], t, H, K, h, σ, a, w, s, hQ => hQ _ _ _ _ _ h s (Ext.refl _ _ _)
  | o :: rest, t, H, K, h, σ, a, w, s, hQ => by
    obtain ⟨wd, h, hw⟩ := aguard_ok h
    refine wpList_step fun KK hKK => ?_
    rw [hw σ w a (fun g want d _ _ => sim_guard s d)]
    cases wd with
    | true =>
      simp only [if_true] at h ⊢
      obtain ⟨r, H', hK, hop, _⟩ := aop_ok h
      refine hop σ w a KK Q (fun x _ => s.env x) s.rel fun u w' ⟨σ', a1, a2, a3, _⟩ => hKK _ _ ?_
      exact aops_list hK σ' _ w' (s.put (q := false) a1 a2 a3) fun t' H'' σ'' a' w'' k1 k2 k3 => hQ _ _ _ _ _ k1 k2 (a3.trans k3)
    | false =>
      simp only [Bool.false_eq_true, if_false] at h ⊢
      refine hKK _ _ (aops_list h σ _ w (s.put (q := false) (.v _) s.rel (Ext.refl _ _ _)) hQ)
end Go.Abs
