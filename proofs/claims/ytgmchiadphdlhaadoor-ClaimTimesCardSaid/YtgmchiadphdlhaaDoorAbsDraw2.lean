/- The rule for a row of operations in whatever order. -/
import Derived.Test.YtgmchiadphdlhaaDoorAbsDraw
namespace Go.Abs
set_option linter.unusedVariables false
set_option linter.unusedSimpArgs false
variable {P : Program} {G : Glob} {σ : Sig} {H : AHeap} {w : World}
def rs (σ : Sig) (n : Nat) : Sig := ⟨fun b ver => if b < n then σ.ρ b ver else none, σ.ro⟩
theorem rs_some {σ : Sig} {n b ver : Nat} {l : Loc} (h : (rs σ n).ρ b ver = some l) : b < n ∧ σ.ρ b ver = some l := by
  simp only [rs] at h
  split at h
  · exact ⟨by assumption, h⟩
  · cases h
theorem rs_of {σ : Sig} {n b ver : Nat} {l : Loc} (hb : b < n) (h : σ.ρ b ver = some l) : (rs σ n).ρ b ver = some l := by
  simp only [rs, hb, if_true]
  exact h
theorem AR.wider {n n' : Nat} (hn : n ≤ n') {x : AV} {u : Value} (h : AR (rs σ n) w x u) : AR (rs σ n') w x u :=
  h.mono (fun b ver l hl => rs_of (Nat.lt_of_lt_of_le (rs_some hl).1 hn) (rs_some hl).2) (fun _ h => h) (fun _ _ => rfl)
theorem Rel.ghosts (r : Rel G σ H w) : ∀ (N : AHeap), Rel G σ (H ++ N) w ∧ Ext σ H w σ (H ++ N) w := by
  intro N
  induction N generalizing H with
  | nil => simpa using ⟨r, Ext.refl σ H w⟩
  | cons k N ih =>
    obtain ⟨h1, h2⟩ := r.ghost k
    obtain ⟨h3, h4⟩ := ih h1
    rw [List.append_assoc] at h3 h4
    exact ⟨h3, h2.trans h4⟩
theorem rs_eq (r : Rel G σ H w) {n : Nat} (h : H.length ≤ n) : rs σ n = σ := by
  cases σ with
  | mk ρ ro =>
    simp only [rs]
    congr 1
    funext b ver
    by_cases hb : b < n
    · simp [hb]
    · simp only [hb, if_false]
      cases hρ : ρ b ver with
      | none => rfl
      | some l =>
        obtain ⟨k, hk, _⟩ := r.fresh b ver l hρ
        have := (List.getElem?_eq_some_iff.1 hk).1
        omega
section
variable {L : Nat → Bool} {ops : Array Oper} {m : Nat} {T : Nat → List AV} {Hh : Nat → AHeap} {V : Nat → AV}
theorem run_len (hst : ∀ i, i < m → ∀ o, ops[i]? = some o → StepAt P G ops o (T i) (T (i + 1)) (Hh i) (Hh (i + 1)) (V i)) (hm : m ≤ ops.size) : ∀ i, i ≤ m → (T i).length = (T 0).length
  | 0, _ => rfl
  | i + 1, h => by
    obtain ⟨h1, _⟩ := hst i (by omega) _ (Array.getElem?_eq_getElem (by omega))
    rw [h1, tput_length]
    exact run_len hst hm i (by omega)
theorem run_heap (hst : ∀ i, i < m → ∀ o, ops[i]? = some o → StepAt P G ops o (T i) (T (i + 1)) (Hh i) (Hh (i + 1)) (V i)) (hm : m ≤ ops.size) (i : Nat) : ∀ j, i ≤ j → j ≤ m → ∃ N, Hh j = Hh i ++ N := by
  intro j hij
  induction j with
  | zero =>
    intro _
    obtain rfl : i = 0 := by omega
    exact ⟨[], by simp⟩
  | succ j ih =>
    intro hj
    by_cases e : i = j + 1
    · subst e
      exact ⟨[], by simp⟩
    · obtain ⟨N, hN⟩ := ih (by omega) (by omega)
      obtain ⟨_, ⟨N', hN'⟩, _⟩ := hst j (by omega) _ (Array.getElem?_eq_getElem (by omega))
      exact ⟨N ++ N', by rw [hN', hN, List.append_assoc]⟩
theorem run_new (ord : Ord ops m L) (hst : ∀ i, i < m → ∀ o, ops[i]? = some o → StepAt P G ops o (T i) (T (i + 1)) (Hh i) (Hh (i + 1)) (V i)) {j : Nat} {oj : Oper} {d : Tmp} (hoj : ops[j]? = some oj) (hd : oj.dst = some d) (hlt : d < (T 0).length) :
    ∀ i, j < i → i ≤ m → (T i).getD d .any = V j := by
  intro i
  induction i with
  | zero => intro h; omega
  | succ i ih =>
    intro hji him
    obtain ⟨oo, hget⟩ : ∃ oo, ops[i]? = some oo := ⟨_, Array.getElem?_eq_getElem (by have := ord.le; omega)⟩
    obtain ⟨h1, _⟩ := hst i (by omega) _ hget
    have hl : d < (T i).length := by rw [run_len hst ord.le i (by omega)]; exact hlt
    rw [h1, tput_getD _ _ _ _ hl]
    by_cases e : j = i
    · subst e
      rw [hoj] at hget
      have : oj = oo := Option.some.inj hget
      rw [← this, if_pos hd]
    · rw [if_neg (ord.dst i j _ _ d (by omega) (by omega) (fun h => e h.symm) hget hoj hd)]
      exact ih (by omega) (by omega)
theorem run_old (ord : Ord ops m L) (hst : ∀ i, i < m → ∀ o, ops[i]? = some o → StepAt P G ops o (T i) (T (i + 1)) (Hh i) (Hh (i + 1)) (V i)) {s : Nat} (hs : s < (T 0).length) :
    ∀ i, i ≤ m → (∀ j oj, j < i → ops[j]? = some oj → oj.dst ≠ some s) → (T i).getD s .any = (T 0).getD s .any := by
  intro i
  induction i with
  | zero => intro _ _; rfl
  | succ i ih =>
    intro him hn
    obtain ⟨oo, hget⟩ : ∃ oo, ops[i]? = some oo := ⟨_, Array.getElem?_eq_getElem (by have := ord.le; omega)⟩
    obtain ⟨h1, _⟩ := hst i (by omega) _ hget
    have hl : s < (T i).length := by rw [run_len hst ord.le i (by omega)]; exact hs
    rw [h1, tput_getD _ _ _ _ hl, if_neg (hn i _ (Nat.lt_succ_self _) hget)]
    exact ih (by omega) (fun j oj hj => hn j oj (by omega))
/-- The table, but for what late operations have yet to write. -/
structure SimL (G : Glob) (L : Nat → Bool) (ops : Array Oper) (listed : Array Bool) (σ : Sig) (t : List AV) (H : AHeap) (a : Act) (w : World) : Prop where
  defers : a.defers = []
  size : a.tmps.size = t.length
  tmps : ∀ s, s < t.length → (∀ l ol, L l = true → ops[l]? = some ol → ol.dst = some s → listed.getD l false = true) → AR σ w (t.getD s .any) (a.tmps.getD s undef)
  rel : Rel G σ H w
theorem Sim.lift {L : Nat → Bool} {ops : Array Oper} {listed : Array Bool} {t : List AV} {a : Act} (s : Sim G σ t H a w) : SimL G L ops listed σ t H a w := ⟨s.defers, s.size, fun j hj _ => s.tmps j hj, s.rel⟩
theorem SimL.down {L : Nat → Bool} {ops : Array Oper} {listed : Array Bool} {t : List AV} {a : Act} (s : SimL G L ops listed σ t H a w) (h : ∀ l ol, L l = true → ops[l]? = some ol → listed.getD l false = true) : Sim G σ t H a w :=
  ⟨s.defers, s.size, fun j hj => s.tmps j hj fun l ol h1 h2 _ => h l ol h1 h2, s.rel⟩
/-- What holds while the first m come up. -/
structure DInv (G : Glob) (L : Nat → Bool) (ops : Array Oper) (m : Nat) (T : Nat → List AV) (Hh : Nat → AHeap) (V : Nat → AV) (σ0 : Sig) (w0 : World) (σ : Sig) (listed : Array Bool) (a : Act) (w : World) : Prop where
  defers : a.defers = []
  size : a.tmps.size = (T 0).length
  lsize : listed.size = ops.size
  closed : ∀ i o, listed.getD i false = true → ops[i]? = some o → ∀ e ∈ o.after, Region.binds .any e = true → listed.getD e.on false = true
  tailUn : ∀ k, m ≤ k → L k = false → listed.getD k false = false
  old : ∀ s, s < (T 0).length → (∀ i oi, i < m → ops[i]? = some oi → oi.dst = some s → listed.getD i false = false) → (∀ l ol, L l = true → ops[l]? = some ol → ol.dst = some s → listed.getD l false = true) → AR (rs σ (Hh 0).length) w ((T 0).getD s .any) (a.tmps.getD s undef)
  new : ∀ i oi s, i < m → ops[i]? = some oi → oi.dst = some s → s < (T 0).length → listed.getD i false = true → AR (rs σ (Hh (i + 1)).length) w (V i) (a.tmps.getD s undef)
  rel : ∀ i, i ≤ m → Rel G (rs σ (Hh i).length) (Hh i) w
  ext : Ext σ0 (Hh 0) w0 (rs σ (Hh m).length) (Hh m) w
  keys : ∀ i, i < m → listed.getD i false = false → ∀ b ver, (Hh i).length ≤ b → b < (Hh (i + 1)).length → σ.ρ b ver = none
theorem bef_listed {listed : Array Bool} (hlow : ∀ i o, ops[i]? = some o → ∀ e ∈ o.after, Region.binds .any e = true → e.on < i) (hcl : ∀ i o, listed.getD i false = true → ops[i]? = some o → ∀ e ∈ o.after, Region.binds .any e = true → listed.getD e.on false = true) :
    ∀ i o, ops[i]? = some o → (∀ e ∈ o.after, Region.binds .any e = true → listed.getD e.on false = true) → ∀ j, (befs ops i).testBit j = true → listed.getD j false = true := by
  intro i
  induction i using Nat.strongRecOn with
  | _ i ih =>
    intro o ho he j hj
    obtain ⟨e, h1, h2, h3⟩ := befs_bit ho (hlow i o ho) hj
    have hon := he e h1 h2
    rcases h3 with rfl | h3
    · exact hon
    · cases hoe : ops[e.on]? with
      | none =>
        have hlt := hlow i o ho e h1 h2
        have := (Array.getElem?_eq_some_iff.1 ho).1
        rw [Array.getElem?_eq_getElem (by omega)] at hoe
        cases hoe
      | some oe => exact ih e.on (hlow i o ho e h1 h2) oe hoe (hcl e.on oe hon hoe) j h3
variable {σ0 : Sig} {w0 : World}
/-- What a ready operation reads. -/
theorem DInv.slot (ord : Ord ops m L) (hst : ∀ i, i < m → ∀ o, ops[i]? = some o → StepAt P G ops o (T i) (T (i + 1)) (Hh i) (Hh (i + 1)) (V i)) {listed : Array Bool} {a : Act} (d : DInv G L ops m T Hh V σ0 w0 σ listed a w)
    {i : Nat} {o : Oper} (hi : i < m) (ho : ops[i]? = some o) (hun : listed.getD i false = false) (hrd : ∀ e ∈ o.after, Region.binds .any e = true → listed.getD e.on false = true) {s : Tmp} (hs : s < (T 0).length) (hr : s ∈ readsOf ops o) :
    AR (rs σ (Hh i).length) w ((T i).getD s .any) (a.tmps.getD s undef) := by
  have hL : ∀ l ol, L l = true → ops[l]? = some ol → ol.dst = some s → listed.getD l false = true := fun l ol hl hol hd => by
    have hne : i ≠ l := fun e => by
      have := (ord.lge l ol hl hol).1
      omega
    exact bef_listed ord.low d.closed i o ho hrd l ((ord.lwr l ol s i o hl hol hd hne ho).2 hr)
  have hlen : ∀ j, j ≤ i → (Hh j).length ≤ (Hh i).length := fun j hj => by
    obtain ⟨N, hN⟩ := run_heap hst ord.le j i hj (by omega)
    rw [hN]
    simp
  by_cases hw : ∃ j oj, j < m ∧ ops[j]? = some oj ∧ oj.dst = some s
  · obtain ⟨j, oj, hj, hoj, hd⟩ := hw
    by_cases hij : i = j
    · subst hij
      have hold : ∀ k ok, k < i → ops[k]? = some ok → ok.dst ≠ some s := fun k ok hk hok => ord.dst k i ok oj s (by omega) hi (by omega) hok hoj hd
      rw [run_old ord hst hs i (by omega) hold]
      refine (d.old s hs (fun k ok hk hok hdk => ?_) hL).wider (hlen 0 (Nat.zero_le _))
      by_cases e : k = i
      · subst e
        exact hun
      · exact absurd hdk (ord.dst k i ok oj s hk hi e hok hoj hd)
    · rcases ord.rd i j o oj s hi hj hij ho hoj hd hr with ⟨h1, h2⟩ | ⟨h1, h2⟩
      · have hl := bef_listed ord.low d.closed i o ho hrd j h2
        rw [run_new ord hst hoj hd hs i h1 (by omega)]
        exact (d.new j oj s hj hoj hd hs hl).wider (hlen (j + 1) (by omega))
      · have hold : ∀ k ok, k < i → ops[k]? = some ok → ok.dst ≠ some s := fun k ok hk hok => ord.dst k j ok oj s (by omega) hj (by omega) hok hoj hd
        rw [run_old ord hst hs i (by omega) hold]
        refine (d.old s hs (fun k ok hk hok hdk => ?_) hL).wider (hlen 0 (Nat.zero_le _))
        by_cases e : k = j
        · subst e
          cases hlk : listed.getD k false with
          | false => rfl
          | true =>
            have := bef_listed ord.low d.closed k ok hok (d.closed k ok hlk hok) i h2
            rw [hun] at this
            cases this
        · exact absurd hdk (ord.dst k j ok oj s hk hj e hok hoj hd)
  · have hnone : ∀ j oj, j < m → ops[j]? = some oj → oj.dst ≠ some s := fun j oj hj hoj hd => hw ⟨j, oj, hj, hoj, hd⟩
    rw [run_old ord hst hs i (by omega) (fun j oj hj => hnone j oj (by omega))]
    exact (d.old s hs (fun k ok hk hok hdk => absurd hdk (hnone k ok hk hok)) hL).wider (hlen 0 (Nat.zero_le _))
/-- All of the first m have come up. -/
theorem DInv.all (ord : Ord ops m L) (hst : ∀ i, i < m → ∀ o, ops[i]? = some o → StepAt P G ops o (T i) (T (i + 1)) (Hh i) (Hh (i + 1)) (V i)) {listed : Array Bool} {a : Act} (d : DInv G L ops m T Hh V σ0 w0 σ listed a w)
    (hall : ∀ i, i < m → listed.getD i false = true) : SimL G L ops listed (rs σ (Hh m).length) (T m) (Hh m) a w := by
  have hlen : ∀ j, j ≤ m → (Hh j).length ≤ (Hh m).length := fun j hj => by
    obtain ⟨N, hN⟩ := run_heap hst ord.le j m hj (Nat.le_refl _)
    rw [hN]
    simp
  refine ⟨d.defers, by rw [run_len hst ord.le m (Nat.le_refl _)]; exact d.size, fun s hs hL => ?_, d.rel m (Nat.le_refl _)⟩
  rw [run_len hst ord.le m (Nat.le_refl _)] at hs
  by_cases hw : ∃ j oj, j < m ∧ ops[j]? = some oj ∧ oj.dst = some s
  · obtain ⟨j, oj, hj, hoj, hd⟩ := hw
    rw [run_new ord hst hoj hd hs m hj (Nat.le_refl _)]
    exact (d.new j oj s hj hoj hd hs (hall j hj)).wider (hlen (j + 1) (by omega))
  · have hnone : ∀ j oj, j < m → ops[j]? = some oj → oj.dst ≠ some s := fun j oj hj hoj hd => hw ⟨j, oj, hj, hoj, hd⟩
    rw [run_old ord hst hs m (Nat.le_refl _) hnone]
    exact (d.old s hs (fun k ok hk hok hdk => absurd hdk (hnone k ok hk hok)) hL).wider (hlen 0 (Nat.zero_le _))
theorem DInv.start (ord : Ord ops m L) (hst : ∀ i, i < m → ∀ o, ops[i]? = some o → StepAt P G ops o (T i) (T (i + 1)) (Hh i) (Hh (i + 1)) (V i)) {a : Act} (s : SimL G L ops (Array.replicate ops.size false) σ0 (T 0) (Hh 0) a w0) :
    DInv G L ops m T Hh V σ0 w0 σ0 (Array.replicate ops.size false) a w0 := by
  have hun : ∀ i, (Array.replicate ops.size false).getD i false = false := fun i => by
    simp only [Array.getD_eq_getD_getElem?, Array.getElem?_replicate]
    split <;> rfl
  have hlen : ∀ j, j ≤ m → (Hh 0).length ≤ (Hh j).length := fun j hj => by
    obtain ⟨N, hN⟩ := run_heap hst ord.le 0 j (Nat.zero_le _) hj
    rw [hN]
    simp
  have hg : ∀ j, j ≤ m → Rel G σ0 (Hh j) w0 ∧ Ext σ0 (Hh 0) w0 σ0 (Hh j) w0 := fun j hj => by
    obtain ⟨N, hN⟩ := run_heap hst ord.le 0 j (Nat.zero_le _) hj
    rw [hN]
    exact s.rel.ghosts N
  refine ⟨s.defers, s.size, by simp, fun i o h => (by rw [hun] at h; cases h), fun k _ _ => hun k, fun j hj _ hL => ?_, fun i oi j _ _ _ _ h => (by rw [hun] at h; cases h), fun i hi => ?_, ?_, fun i hi _ b ver hb _ => ?_⟩
  · rw [rs_eq s.rel (Nat.le_refl _)]
    exact s.tmps j hj hL
  · rw [rs_eq s.rel (hlen i hi)]
    exact (hg i hi).1
  · rw [rs_eq s.rel (hlen m (Nat.le_refl _))]
    exact (hg m (Nat.le_refl _)).2
  · cases h : σ0.ρ b ver with
    | none => rfl
    | some l =>
      obtain ⟨k, hk, _⟩ := s.rel.fresh b ver l h
      have := (List.getElem?_eq_some_iff.1 hk).1
      have := hlen i (by omega)
      omega
end
end Go.Abs
