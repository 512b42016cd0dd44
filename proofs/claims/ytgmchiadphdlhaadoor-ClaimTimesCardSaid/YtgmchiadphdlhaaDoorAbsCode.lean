/- Code: what it comes to; calls. -/
import Derived.Test.YtgmchiadphdlhaaDoorAbsDraw3
import Derived.Deep.LoopGhost
namespace Go.Abs
set_option linter.unusedVariables false
set_option linter.unusedSimpArgs false
variable {P : Program} {G : Glob} {σ : Sig} {H : AHeap} {w : World}
section
variable {ops : Array Oper} {m : Nat} {T : Nat → List AV} {Hh : Nat → AHeap} {V : Nat → AV} {σ0 : Sig} {w0 : World} {Q : Exit → Act → World → Prop}
theorem some_ready (hlow : ∀ i o, ops[i]? = some o → ∀ e ∈ o.after, Region.binds .any e = true → e.on < i) {listed : Array Bool} (hs : listed.size = ops.size) :
    ∀ k, k ≤ ops.size → (∃ i, i < k ∧ listed.getD i false = false) → ∃ i, i < k ∧ i ∈ Region.ready .any ops listed := by
  intro k
  induction k with
  | zero => rintro _ ⟨i, h, _⟩; omega
  | succ k ih =>
    rintro hk ⟨i, hi, hun⟩
    by_cases hex : ∃ j, j < k ∧ listed.getD j false = false
    · obtain ⟨j, hj, hr⟩ := ih (by omega) hex
      exact ⟨j, by omega, hr⟩
    · have hall : ∀ j, j < k → listed.getD j false = true := fun j hj => by
        cases h : listed.getD j false with
        | true => rfl
        | false => exact absurd ⟨j, hj, h⟩ hex
      have hik : i = k := by
        rcases Nat.lt_or_ge i k with h | h
        · rw [hall i h] at hun
          cases hun
        · omega
      subst hik
      have hget : ops[i]? = some ops[i] := Array.getElem?_eq_getElem (by omega)
      have hlt : i < listed.size := by omega
      refine ⟨i, hi, mem_ready.2 ⟨?_, _, hget, fun e he hb => hall _ (hlow i _ hget e he hb)⟩⟩
      simpa [hlt] using hun
theorem ready_un {listed : Array Bool} {i : Nat} (h : i ∈ Region.ready .any ops listed) (hs : listed.size = ops.size) : listed.getD i false = false ∧ i < ops.size := by
  obtain ⟨h1, o, ho, _⟩ := mem_ready.1 h
  have hlt := (Array.getElem?_eq_some_iff.1 ho).1
  exact ⟨by simpa [show i < listed.size by omega] using h1, hlt⟩
/-- The rest, one behind the other. -/
theorem tail_any (ord : Ord ops m (fun _ => false)) : ∀ (fuel k : Nat) (listed : Array Bool) (a : Act) (w : World), m ≤ k → k ≤ ops.size → ops.size ≤ fuel + k → listed.size = ops.size → (∀ i, listed.getD i false = true ↔ i < k) →
    (∀ i o, listed.getD i false = true → ops[i]? = some o → ∀ e ∈ o.after, Region.binds .any e = true → listed.getD e.on false = true) → wpList P ops Q (ops.toList.drop k) a w → wpAny P .any ops Q fuel listed a w := by
  intro fuel
  induction fuel with
  | zero =>
    intro k listed a w hm hk hf hs hl hc h
    obtain rfl : k = ops.size := by omega
    rw [List.drop_of_length_le (by simp)] at h
    refine ⟨?_, h⟩
    rw [List.eq_nil_iff_forall_not_mem]
    intro i hi
    obtain ⟨h1, h2⟩ := ready_un hi hs
    rw [(hl i).2 h2] at h1
    cases h1
  | succ fuel ih =>
    intro k listed a w hm hk hf hs hl hc h
    by_cases hke : k = ops.size
    · subst hke
      rw [List.drop_of_length_le (by simp)] at h
      refine ⟨fun _ => h, fun i hi => ?_⟩
      obtain ⟨h1, h2⟩ := ready_un hi hs
      rw [(hl i).2 h2] at h1
      cases h1
    · have hlt : k < ops.size := by omega
      have hget : ops[k]? = some ops[k] := Array.getElem?_eq_getElem hlt
      refine ⟨fun hr => ?_, fun i hi => ?_⟩
      · obtain ⟨i, _, hi⟩ := some_ready ord.low hs ops.size (Nat.le_refl _) ⟨k, hlt, by cases hx : listed.getD k false with | false => rfl | true => have := (hl k).1 hx; omega⟩
        rw [hr] at hi
        cases hi
      · obtain ⟨h1, h2⟩ := ready_un hi hs
        have hik : i = k := by
          rcases Nat.lt_trichotomy i k with h3 | h3 | h3
          · rw [(hl i).2 h3] at h1
            cases h1
          · exact h3
          · obtain ⟨_, o, ho, hrd⟩ := mem_ready.1 hi
            have := bef_listed ord.low hc i o ho (fun e he hb => hrd e he hb) k (ord.tail i (by omega) h2 rfl k h3 rfl)
            have := (hl k).1 this
            omega
        subst hik
        rw [List.drop_eq_getElem_cons (by simpa using hlt)] at h
        simp only [Array.getElem_toList] at h
        unfold wpOp
        rw [hget]
        simp only
        have hrest : ∀ a w, wpList P ops Q (ops.toList.drop (i + 1)) a w → wpAny P .any ops Q fuel (listed.setIfInBounds i true) a w := by
          intro a w h
          have hil : i < listed.size := by omega
          refine ih (i + 1) _ a w (by omega) (by omega) (by omega) (by simpa using hs) (fun j => ?_) (fun j o hj ho e he hb => ?_) h
          · rw [set_get hil]
            by_cases hij : i = j
            · subst hij
              simp
            · rw [if_neg hij, hl j]
              omega
          · rw [set_get hil] at hj ⊢
            by_cases hij : i = j
            · subst hij
              split
              · rfl
              · obtain ⟨_, o', ho', hrd⟩ := mem_ready.1 hi
                rw [ho] at ho'
                cases ho'
                exact hrd e he hb
            · rw [if_neg hij] at hj
              split
              · rfl
              · exact hc j o hj ho e he hb
        unfold wpList at h
        split
        · rename_i hw
          rw [if_pos hw] at h
          rcases h with h | h
          · exact .inl (Oper.wp_mono hrest h)
          · exact .inr h
        · rename_i hw
          rw [if_neg hw] at h
          exact hrest _ _ h
theorem DInv.listedLt {listed : Array Bool} {a : Act} (d : DInv G (fun _ => false) ops m T Hh V σ0 w0 σ listed a w) {i : Nat} (h : listed.getD i false = true) : i < m := by
  rcases Nat.lt_or_ge i m with h' | h'
  · exact h'
  · rw [d.tailUn i h' rfl] at h
    cases h
theorem draw_any (ord : Ord ops m (fun _ => false)) (hst : ∀ i, i < m → ∀ o, ops[i]? = some o → StepAt P G ops o (T i) (T (i + 1)) (Hh i) (Hh (i + 1)) (V i))
    (hend : ∀ (σ : Sig) (a : Act) (w : World), Sim G σ (T m) (Hh m) a w → Ext σ0 (Hh 0) w0 σ (Hh m) w → wpList P ops Q (ops.toList.drop m) a w) :
    ∀ (fuel : Nat) (listed : Array Bool) (a : Act) (w : World) (σ : Sig), DInv G (fun _ => false) ops m T Hh V σ0 w0 σ listed a w → ∀ (n : Nat), n = ((List.range m).filter fun i => !listed.getD i false).length → ops.size - m + n ≤ fuel → wpAny P .any ops Q fuel listed a w := by
  intro fuel
  induction fuel with
  | zero =>
    intro listed a w σ d n hn hf
    have hall : ∀ i, i < m → listed.getD i false = true := fun i hi => by
      cases h : listed.getD i false with
      | true => rfl
      | false =>
        have : i ∈ (List.range m).filter fun i => !listed.getD i false := List.mem_filter.2 ⟨by simpa using hi, by simp [h]⟩
        have := List.length_pos_of_mem this
        omega
    exact tail_any ord 0 m listed a w (Nat.le_refl _) ord.le (by omega) d.lsize (fun i => ⟨fun h => d.listedLt h, fun h => hall i h⟩) d.closed (hend _ _ _ ((d.all ord hst hall).down fun _ _ h => by cases h) d.ext)
  | succ fuel ih =>
    intro listed a w σ d n hn hf
    by_cases hall : ∀ i, i < m → listed.getD i false = true
    · exact tail_any ord (fuel + 1) m listed a w (Nat.le_refl _) ord.le (by omega) d.lsize (fun i => ⟨fun h => d.listedLt h, fun h => hall i h⟩) d.closed (hend _ _ _ ((d.all ord hst hall).down fun _ _ h => by cases h) d.ext)
    · have hex : ∃ i, i < m ∧ listed.getD i false = false := by
        refine Classical.byContradiction fun hn => hall fun i hi => ?_
        cases h : listed.getD i false with
        | true => rfl
        | false => exact absurd ⟨i, hi, h⟩ hn
      refine ⟨fun hr => ?_, fun i hi => ?_⟩
      · obtain ⟨i, _, hi⟩ := some_ready ord.low d.lsize m ord.le hex
        rw [hr] at hi
        cases hi
      · obtain ⟨h1, h2⟩ := ready_un hi d.lsize
        obtain ⟨_, o, ho, hrd⟩ := mem_ready.1 hi
        have him : i < m := by
          rcases Nat.lt_or_ge i m with h | h
          · exact h
          · obtain ⟨j, hj, hjun⟩ := hex
            have := bef_listed ord.low d.closed i o ho (fun e he hb => hrd e he hb) j (ord.tail i h h2 rfl j (by omega) rfl)
            rw [hjun] at this
            cases this
        have hrd' : ∀ e ∈ o.after, Region.binds .any e = true → listed.getD e.on false = true := fun e he hb => hrd e he hb
        have hil : i < listed.size := by rw [d.lsize]; exact h2
        -- one fewer is left
        have hcount : ∀ (σ' : Sig) (a' : Act) (w' : World), DInv G (fun _ => false) ops m T Hh V σ0 w0 σ' (listed.setIfInBounds i true) a' w' → wpAny P .any ops Q fuel (listed.setIfInBounds i true) a' w' := by
          intro σ' a' w' d'
          refine ih _ _ _ σ' d' _ rfl ?_
          have hlt : ((List.range m).filter fun j => !(listed.setIfInBounds i true).getD j false).length < ((List.range m).filter fun j => !listed.getD j false).length := by
            have e : ((List.range m).filter fun j => !(listed.setIfInBounds i true).getD j false) = ((List.range m).filter fun j => !listed.getD j false).filter fun j => j != i := by
              rw [List.filter_filter]
              congr 1
              funext j
              rw [set_get hil]
              by_cases hij : i = j
              · subst hij
                simp
              · simp only [hij, if_false]
                have : (j != i) = true := by simp; exact fun e => hij e.symm
                simp [this]
            rw [e]
            have hmem : i ∈ (List.range m).filter fun j => !listed.getD j false := List.mem_filter.2 ⟨by simpa using him, by simp [h1]⟩
            refine Nat.lt_of_le_of_ne (List.length_filter_le _ _) fun he => ?_
            have := (List.length_filter_eq_length_iff.1 he) i hmem
            simp at this
          omega
        have hlen0 := run_len hst ord.le i (by omega)
        obtain ⟨e1, ⟨N, hN⟩, wd, hw, hstep⟩ := hst i him o ho
        have hslot : ∀ s, s ∈ readsOf ops o → AR (rs σ (Hh i).length) w ((T i).getD s .any) (a.tmps.getD s undef) ∧ (s < a.tmps.size ∨ (T i).getD s .any = .any) := by
          intro s hs
          by_cases hlt : s < (T 0).length
          · exact ⟨d.slot ord hst him ho h1 hrd' hlt hs, .inl (by rw [d.size]; exact hlt)⟩
          · have hge : (T i).length ≤ s := by rw [hlen0]; exact Nat.le_of_not_lt hlt
            have : (T i).getD s .any = .any := by simp [List.getD_eq_getElem?_getD, List.getElem?_eq_none hge]
            rw [this]
            exact ⟨.any _, .inr rfl⟩
        have hwd : Region.wanted o (yielded ops a.tmps) = wd := hw (rs σ (Hh i).length) w a fun g want dd hg hd => hslot dd (by simp [readsOf, hg, hd])
        unfold wpOp
        rw [ho]
        simp only
        rw [hwd]
        cases wd with
        | true =>
          simp only [if_true] at hstep ⊢
          refine .inl (hstep (rs σ (Hh i).length) w a _ Q (fun x hx => ?_) (d.rel i (by omega)) fun u w' ⟨σ1, f1, f2, f3, f4⟩ => hcount _ _ _ (d.step ord hst him ho h1 hrd' f1 f2 f3 (f4 rfl)))
          cases x with
          | tmp s =>
            have hs : s ∈ readsOf ops o := by
              simp only [readsOf, List.mem_append, List.mem_filterMap]
              exact .inl ⟨.tmp s, by simpa using hx, rfl⟩
            exact (hslot s hs).1
          | const c => exact toAV_ar c
          | global g => exact (d.rel i (by omega)).glob g
          | func f => exact .fn #[] rfl (fun j hj => by simp at hj)
        | false =>
          simp only [Bool.false_eq_true, if_false] at hstep ⊢
          obtain ⟨hv, hH⟩ := hstep
          refine hcount _ _ _ (d.step (σ1 := rs σ (Hh i).length) (w' := w) ord hst him ho h1 hrd' (by rw [hv]; exact .v _) (by rw [hH]; exact d.rel i (by omega)) (by rw [hH]; exact Ext.refl _ _ _) (Quiet.refl _ _ _))
end
end Go.Abs
