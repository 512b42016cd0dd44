/- The rule for a row of operations in whatever order. One operation more has come up; the rule. Code: what it comes to; calls. Code as a predicate of what it comes to; calls out of it. What a call comes -/
import Derived.Test.YtdbpaahdonplbaaDoorJP1
import Derived.Deep.LoopGhost
import Derived.TacticsIn
import Derived.OrdersIn
import Derived.LoopNIn
import Derived.LoopN
namespace Go.Abs
set_option linter.unusedVariables false
set_option linter.unusedSimpArgs false
variable {P : Program} {G : Glob} {σ : Sig} {H : AHeap} {w : World}
def rs (σ : Sig) (n : Nat) : Sig := ⟨fun b ver => if b < n then σ.ρ b ver else none, σ.ro⟩
theorem rs_some {σ : Sig} {n b ver : Nat} {l : Loc} (h : (rs σ n).ρ b ver = some l) : b < n ∧ σ.ρ b ver = some l := by
  simp only [rs] at h
  split at h
  · exact ⟨by assumption, h⟩
  · cases h
theorem rs_of {σ : Sig} {n b ver : Nat} {l : Loc} (hb : b < n) (h : σ.ρ b ver = some l) : (rs σ n).ρ b ver = some l := by
  simp only [rs, hb, if_true]
  exact h
theorem AR.wider {n n' : Nat} (hn : n ≤ n') {x : AV} {u : Value} (h : AR (rs σ n) w x u) : AR (rs σ n') w x u :=
  h.mono (fun b ver l hl => rs_of (Nat.lt_of_lt_of_le (rs_some hl).1 hn) (rs_some hl).2) (fun _ h => h) (fun _ _ => rfl)
theorem Rel.ghosts (r : Rel G σ H w) : ∀ (N : AHeap), Rel G σ (H ++ N) w ∧ Ext σ H w σ (H ++ N) w := by
  intro N
  induction N generalizing H with
  | nil => simpa using ⟨r, Ext.refl σ H w⟩
  | cons k N ih =>
    obtain ⟨h1, h2⟩ := r.ghost k
    obtain ⟨h3, h4⟩ := ih h1
    rw [List.append_assoc] at h3 h4
    exact ⟨h3, h2.trans h4⟩
theorem rs_eq (r : Rel G σ H w) {n : Nat} (h : H.length ≤ n) : rs σ n = σ := by
  cases σ with
  | mk ρ ro =>
    simp only [rs]
    congr 1
    funext b ver
    by_cases hb : b < n
    · simp [hb]
    · simp only [hb, if_false]
      cases hρ : ρ b ver with
      | none => rfl
      | some l =>
        obtain ⟨k, hk, _⟩ := r.fresh b ver l hρ
        have := (List.getElem?_eq_some_iff.1 hk).1
        omega
section
variable {L : Nat → Bool} {ops : Array Oper} {m : Nat} {T : Nat → List AV} {Hh : Nat → AHeap} {V : Nat → AV}
theorem run_len (hst : ∀ i, i < m → ∀ o, ops[i]? = some o → StepAt P G ops o (T i) (T (i + 1)) (Hh i) (Hh (i + 1)) (V i)) (hm : m ≤ ops.size) : ∀ i, i ≤ m → (T i).length = (T 0).length
  | 0, _ => rfl
  | i + 1, h => by
    obtain ⟨h1, _⟩ := hst i (by omega) _ (Array.getElem?_eq_getElem (by omega))
    rw [h1, tput_length]
    exact run_len hst hm i (by omega)
theorem run_heap (hst : ∀ i, i < m → ∀ o, ops[i]? = some o → StepAt P G ops o (T i) (T (i + 1)) (Hh i) (Hh (i + 1)) (V i)) (hm : m ≤ ops.size) (i : Nat) : ∀ j, i ≤ j → j ≤ m → ∃ N, Hh j = Hh i ++ N := by
  intro j hij
  induction j with
  | zero =>
    intro _
    obtain rfl : i = 0 := by omega
    exact ⟨[], by simp⟩
  | succ j ih =>
    intro hj
    by_cases e : i = j + 1
    · subst e
      exact ⟨[], by simp⟩
    · obtain ⟨N, hN⟩ := ih (by omega) (by omega)
      obtain ⟨_, ⟨N', hN'⟩, _⟩ := hst j (by omega) _ (Array.getElem?_eq_getElem (by omega))
      exact ⟨N ++ N', by rw [hN', hN, List.append_assoc]⟩
theorem run_new (ord : Ord ops m L) (hst : ∀ i, i < m → ∀ o, ops[i]? = some o → StepAt P G ops o (T i) (T (i + 1)) (Hh i) (Hh (i + 1)) (V i)) {j : Nat} {oj : Oper} {d : Tmp} (hoj : ops[j]? = some oj) (hd : oj.dst = some d) (hlt : d < (T 0).length) :
    ∀ i, j < i → i ≤ m → (T i).getD d .any = V j := by
  intro i
  induction i with
  | zero => intro h; omega
  | succ i ih =>
    intro hji him
    obtain ⟨oo, hget⟩ : ∃ oo, ops[i]? = some oo := ⟨_, Array.getElem?_eq_getElem (by have := ord.le; omega)⟩
    obtain ⟨h1, _⟩ := hst i (by omega) _ hget
    have hl : d < (T i).length := by rw [run_len hst ord.le i (by omega)]; exact hlt
    rw [h1, tput_getD _ _ _ _ hl]
    by_cases e : j = i
    · subst e
      rw [hoj] at hget
      have : oj = oo := Option.some.inj hget
      rw [← this, if_pos hd]
    · rw [if_neg (ord.dst i j _ _ d (by omega) (by omega) (fun h => e h.symm) hget hoj hd)]
      exact ih (by omega) (by omega)
theorem run_old (ord : Ord ops m L) (hst : ∀ i, i < m → ∀ o, ops[i]? = some o → StepAt P G ops o (T i) (T (i + 1)) (Hh i) (Hh (i + 1)) (V i)) {s : Nat} (hs : s < (T 0).length) :
    ∀ i, i ≤ m → (∀ j oj, j < i → ops[j]? = some oj → oj.dst ≠ some s) → (T i).getD s .any = (T 0).getD s .any := by
  intro i
  induction i with
  | zero => intro _ _; rfl
  | succ i ih =>
    intro him hn
    obtain ⟨oo, hget⟩ : ∃ oo, ops[i]? = some oo := ⟨_, Array.getElem?_eq_getElem (by have := ord.le; omega)⟩
    obtain ⟨h1, _⟩ := hst i (by omega) _ hget
    have hl : s < (T i).length := by rw [run_len hst ord.le i (by omega)]; exact hs
    rw [h1, tput_getD _ _ _ _ hl, if_neg (hn i _ (Nat.lt_succ_self _) hget)]
    exact ih (by omega) (fun j oj hj => hn j oj (by omega))
/-- The table, but for what late operations have yet to write. -/
structure SimL (G : Glob) (L : Nat → Bool) (ops : Array Oper) (listed : Array Bool) (σ : Sig) (t : List AV) (H : AHeap) (a : Act) (w : World) : Prop where
  defers : a.defers = []
  size : a.tmps.size = t.length
  tmps : ∀ s, s < t.length → (∀ l ol, L l = true → ops[l]? = some ol → ol.dst = some s → listed.getD l false = true) → AR σ w (t.getD s .any) (a.tmps.getD s undef)
  rel : Rel G σ H w
theorem Sim.lift {L : Nat → Bool} {ops : Array Oper} {listed : Array Bool} {t : List AV} {a : Act} (s : Sim G σ t H a w) : SimL G L ops listed σ t H a w := ⟨s.defers, s.size, fun j hj _ => s.tmps j hj, s.rel⟩
theorem SimL.down {L : Nat → Bool} {ops : Array Oper} {listed : Array Bool} {t : List AV} {a : Act} (s : SimL G L ops listed σ t H a w) (h : ∀ l ol, L l = true → ops[l]? = some ol → listed.getD l false = true) : Sim G σ t H a w :=
  ⟨s.defers, s.size, fun j hj => s.tmps j hj fun l ol h1 h2 _ => h l ol h1 h2, s.rel⟩
/-- What holds while the first m come up. -/
structure DInv (G : Glob) (L : Nat → Bool) (ops : Array Oper) (m : Nat) (T : Nat → List AV) (Hh : Nat → AHeap) (V : Nat → AV) (σ0 : Sig) (w0 : World) (σ : Sig) (listed : Array Bool) (a : Act) (w : World) : Prop where
  defers : a.defers = []
  size : a.tmps.size = (T 0).length
  lsize : listed.size = ops.size
  closed : ∀ i o, listed.getD i false = true → ops[i]? = some o → ∀ e ∈ o.after, Region.binds .any e = true → listed.getD e.on false = true
  tailUn : ∀ k, m ≤ k → L k = false → listed.getD k false = false
  old : ∀ s, s < (T 0).length → (∀ i oi, i < m → ops[i]? = some oi → oi.dst = some s → listed.getD i false = false) → (∀ l ol, L l = true → ops[l]? = some ol → ol.dst = some s → listed.getD l false = true) → AR (rs σ (Hh 0).length) w ((T 0).getD s .any) (a.tmps.getD s undef)
  new : ∀ i oi s, i < m → ops[i]? = some oi → oi.dst = some s → s < (T 0).length → listed.getD i false = true → AR (rs σ (Hh (i + 1)).length) w (V i) (a.tmps.getD s undef)
  rel : ∀ i, i ≤ m → Rel G (rs σ (Hh i).length) (Hh i) w
  ext : Ext σ0 (Hh 0) w0 (rs σ (Hh m).length) (Hh m) w
  keys : ∀ i, i < m → listed.getD i false = false → ∀ b ver, (Hh i).length ≤ b → b < (Hh (i + 1)).length → σ.ρ b ver = none
theorem bef_listed {listed : Array Bool} (hlow : ∀ i o, ops[i]? = some o → ∀ e ∈ o.after, Region.binds .any e = true → e.on < i) (hcl : ∀ i o, listed.getD i false = true → ops[i]? = some o → ∀ e ∈ o.after, Region.binds .any e = true → listed.getD e.on false = true) :
    ∀ i o, ops[i]? = some o → (∀ e ∈ o.after, Region.binds .any e = true → listed.getD e.on false = true) → ∀ j, (befs ops i).testBit j = true → listed.getD j false = true := by
  intro i
  induction i using Nat.strongRecOn with
  | _ i ih =>
    intro o ho he j hj
    obtain ⟨e, h1, h2, h3⟩ := befs_bit ho (hlow i o ho) hj
    have hon := he e h1 h2
    rcases h3 with rfl | h3
    · exact hon
    · cases hoe : ops[e.on]? with
      | none =>
        have hlt := hlow i o ho e h1 h2
        have := (Array.getElem?_eq_some_iff.1 ho).1
        rw [Array.getElem?_eq_getElem (by omega)] at hoe
        cases hoe
      | some oe => exact ih e.on (hlow i o ho e h1 h2) oe hoe (hcl e.on oe hon hoe) j h3
variable {σ0 : Sig} {w0 : World}
/-- What a ready operation reads. -/
theorem DInv.slot (ord : Ord ops m L) (hst : ∀ i, i < m → ∀ o, ops[i]? = some o → StepAt P G ops o (T i) (T (i + 1)) (Hh i) (Hh (i + 1)) (V i)) {listed : Array Bool} {a : Act} (d : DInv G L ops m T Hh V σ0 w0 σ listed a w)
    {i : Nat} {o : Oper} (hi : i < m) (ho : ops[i]? = some o) (hun : listed.getD i false = false) (hrd : ∀ e ∈ o.after, Region.binds .any e = true → listed.getD e.on false = true) {s : Tmp} (hs : s < (T 0).length) (hr : s ∈ readsOf ops o) :
    AR (rs σ (Hh i).length) w ((T i).getD s .any) (a.tmps.getD s undef) := by
  have hL : ∀ l ol, L l = true → ops[l]? = some ol → ol.dst = some s → listed.getD l false = true := fun l ol hl hol hd => by
    have hne : i ≠ l := fun e => by
      have := (ord.lge l ol hl hol).1
      omega
    exact bef_listed ord.low d.closed i o ho hrd l ((ord.lwr l ol s i o hl hol hd hne ho).2 hr)
  have hlen : ∀ j, j ≤ i → (Hh j).length ≤ (Hh i).length := fun j hj => by
    obtain ⟨N, hN⟩ := run_heap hst ord.le j i hj (by omega)
    rw [hN]
    simp
  by_cases hw : ∃ j oj, j < m ∧ ops[j]? = some oj ∧ oj.dst = some s
  · obtain ⟨j, oj, hj, hoj, hd⟩ := hw
    by_cases hij : i = j
    · subst hij
      have hold : ∀ k ok, k < i → ops[k]? = some ok → ok.dst ≠ some s := fun k ok hk hok => ord.dst k i ok oj s (by omega) hi (by omega) hok hoj hd
      rw [run_old ord hst hs i (by omega) hold]
      refine (d.old s hs (fun k ok hk hok hdk => ?_) hL).wider (hlen 0 (Nat.zero_le _))
      by_cases e : k = i
      · subst e
        exact hun
      · exact absurd hdk (ord.dst k i ok oj s hk hi e hok hoj hd)
    · rcases ord.rd i j o oj s hi hj hij ho hoj hd hr with ⟨h1, h2⟩ | ⟨h1, h2⟩
      · have hl := bef_listed ord.low d.closed i o ho hrd j h2
        rw [run_new ord hst hoj hd hs i h1 (by omega)]
        exact (d.new j oj s hj hoj hd hs hl).wider (hlen (j + 1) (by omega))
      · have hold : ∀ k ok, k < i → ops[k]? = some ok → ok.dst ≠ some s := fun k ok hk hok => ord.dst k j ok oj s (by omega) hj (by omega) hok hoj hd
        rw [run_old ord hst hs i (by omega) hold]
        refine (d.old s hs (fun k ok hk hok hdk => ?_) hL).wider (hlen 0 (Nat.zero_le _))
        by_cases e : k = j
        · subst e
          cases hlk : listed.getD k false with
          | false => rfl
          | true =>
            have := bef_listed ord.low d.closed k ok hok (d.closed k ok hlk hok) i h2
            rw [hun] at this
            cases this
        · exact absurd hdk (ord.dst k j ok oj s hk hj e hok hoj hd)
  · have hnone : ∀ j oj, j < m → ops[j]? = some oj → oj.dst ≠ some s := fun j oj hj hoj hd => hw ⟨j, oj, hj, hoj, hd⟩
    rw [run_old ord hst hs i (by omega) (fun j oj hj => hnone j oj (by omega))]
    exact (d.old s hs (fun k ok hk hok hdk => absurd hdk (hnone k ok hk hok)) hL).wider (hlen 0 (Nat.zero_le _))
/-- All of the first m have come up. -/
theorem DInv.all (ord : Ord ops m L) (hst : ∀ i, i < m → ∀ o, ops[i]? = some o → StepAt P G ops o (T i) (T (i + 1)) (Hh i) (Hh (i + 1)) (V i)) {listed : Array Bool} {a : Act} (d : DInv G L ops m T Hh V σ0 w0 σ listed a w)
    (hall : ∀ i, i < m → listed.getD i false = true) : SimL G L ops listed (rs σ (Hh m).length) (T m) (Hh m) a w := by
  have hlen : ∀ j, j ≤ m → (Hh j).length ≤ (Hh m).length := fun j hj => by
    obtain ⟨N, hN⟩ := run_heap hst ord.le j m hj (Nat.le_refl _)
    rw [hN]
    simp
  refine ⟨d.defers, by rw [run_len hst ord.le m (Nat.le_refl _)]; exact d.size, fun s hs hL => ?_, d.rel m (Nat.le_refl _)⟩
  rw [run_len hst ord.le m (Nat.le_refl _)] at hs
  by_cases hw : ∃ j oj, j < m ∧ ops[j]? = some oj ∧ oj.dst = some s
  · obtain ⟨j, oj, hj, hoj, hd⟩ := hw
    rw [run_new ord hst hoj hd hs m hj (Nat.le_refl _)]
    exact (d.new j oj s hj hoj hd hs (hall j hj)).wider (hlen (j + 1) (by omega))
  · have hnone : ∀ j oj, j < m → ops[j]? = some oj → oj.dst ≠ some s := fun j oj hj hoj hd => hw ⟨j, oj, hj, hoj, hd⟩
    rw [run_old ord hst hs m (Nat.le_refl _) hnone]
    exact (d.old s hs (fun k ok hk hok hdk => absurd hdk (hnone k ok hk hok)) hL).wider (hlen 0 (Nat.zero_le _))
theorem DInv.start (ord : Ord ops m L) (hst : ∀ i, i < m → ∀ o, ops[i]? = some o → StepAt P G ops o (T i) (T (i + 1)) (Hh i) (Hh (i + 1)) (V i)) {a : Act} (s : SimL G L ops (Array.replicate ops.size false) σ0 (T 0) (Hh 0) a w0) :
    DInv G L ops m T Hh V σ0 w0 σ0 (Array.replicate ops.size false) a w0 := by
  have hun : ∀ i, (Array.replicate ops.size false).getD i false = false := fun i => by
    simp only [Array.getD_eq_getD_getElem?, Array.getElem?_replicate]
    split <;> rfl
  have hlen : ∀ j, j ≤ m → (Hh 0).length ≤ (Hh j).length := fun j hj => by
    obtain ⟨N, hN⟩ := run_heap hst ord.le 0 j (Nat.zero_le _) hj
    rw [hN]
    simp
  have hg : ∀ j, j ≤ m → Rel G σ0 (Hh j) w0 ∧ Ext σ0 (Hh 0) w0 σ0 (Hh j) w0 := fun j hj => by
    obtain ⟨N, hN⟩ := run_heap hst ord.le 0 j (Nat.zero_le _) hj
    rw [hN]
    exact s.rel.ghosts N
  refine ⟨s.defers, s.size, by simp, fun i o h => (by rw [hun] at h; cases h), fun k _ _ => hun k, fun j hj _ hL => ?_, fun i oi j _ _ _ _ h => (by rw [hun] at h; cases h), fun i hi => ?_, ?_, fun i hi _ b ver hb _ => ?_⟩
  · rw [rs_eq s.rel (Nat.le_refl _)]
    exact s.tmps j hj hL
  · rw [rs_eq s.rel (hlen i hi)]
    exact (hg i hi).1
  · rw [rs_eq s.rel (hlen m (Nat.le_refl _))]
    exact (hg m (Nat.le_refl _)).2
  · cases h : σ0.ρ b ver with
    | none => rfl
    | some l =>
      obtain ⟨k, hk, _⟩ := s.rel.fresh b ver l h
      have := (List.getElem?_eq_some_iff.1 hk).1
      have := hlen i (by omega)
      omega
end
end Go.Abs
namespace Go.Abs
set_option linter.unusedVariables false
set_option linter.unusedSimpArgs false
variable {P : Program} {G : Glob} {σ : Sig} {H : AHeap} {w : World}
section
variable {L : Nat → Bool} {ops : Array Oper} {m : Nat} {T : Nat → List AV} {Hh : Nat → AHeap} {V : Nat → AV} {σ0 : Sig} {w0 : World}
theorem set_get {l : Array Bool} {i : Nat} (hi : i < l.size) (j : Nat) : (l.setIfInBounds i true).getD j false = if i = j then true else l.getD j false := by
  simp only [Array.getD_eq_getD_getElem?, Array.getElem?_setIfInBounds]
  by_cases h : i = j
  · subst h
    simp [hi]
  · simp [h]
/-- What an operation left, together with what others did. -/
def mix (σ σ1 : Sig) (n : Nat) : Sig := ⟨fun b ver => if b < n then σ1.ρ b ver else σ.ρ b ver, fun B => σ1.ro B ∨ σ.ro B⟩
theorem DInv.step (ord : Ord ops m L) (hst : ∀ i, i < m → ∀ o, ops[i]? = some o → StepAt P G ops o (T i) (T (i + 1)) (Hh i) (Hh (i + 1)) (V i)) {listed : Array Bool} {a : Act} (d : DInv G L ops m T Hh V σ0 w0 σ listed a w)
    {i : Nat} {o : Oper} (hi : i < m) (ho : ops[i]? = some o) (hun : listed.getD i false = false) (hrd : ∀ e ∈ o.after, Region.binds .any e = true → listed.getD e.on false = true)
    {u : Value} {σ1 : Sig} {w' : World} (h1 : AR σ1 w' (V i) u) (h2 : Rel G σ1 (Hh (i + 1)) w') (h3 : Ext (rs σ (Hh i).length) (Hh i) w σ1 (Hh (i + 1)) w') (h4 : Quiet (rs σ (Hh i).length) (Hh i) w σ1 w') :
    DInv G L ops m T Hh V σ0 w0 (mix σ σ1 (Hh (i + 1)).length) (listed.setIfInBounds i true) (a.put o.dst u) w' := by
  have hlen : ∀ j k, j ≤ k → k ≤ m → (Hh j).length ≤ (Hh k).length := fun j k hj hk => by
    obtain ⟨N, hN⟩ := run_heap hst ord.le j k hj hk
    rw [hN]
    simp
  have hpre : ∀ j k b, j ≤ k → k ≤ m → b < (Hh j).length → (Hh k)[b]? = (Hh j)[b]? := fun j k b hj hk hb => by
    obtain ⟨N, hN⟩ := run_heap hst ord.le j k hj hk
    rw [hN, List.getElem?_append_left hb]
  have hil : i < listed.size := by
    rw [d.lsize]
    exact (Array.getElem?_eq_some_iff.1 ho).1
  have hkeys : ∀ b ver, (Hh i).length ≤ b → b < (Hh (i + 1)).length → σ.ρ b ver = none := d.keys i hi hun
  -- below the new places both say the same
  have hlow : ∀ b ver l, b < (Hh i).length → (σ1.ρ b ver = some l ↔ σ.ρ b ver = some l) := by
    intro b ver l hb
    constructor
    · intro h
      rcases h4.keys b ver l h with h | h
      · exact (rs_some h).2
      · omega
    · intro h
      exact h3.ρ b ver l (rs_of hb h)
  have hsub : ∀ b ver l, σ.ρ b ver = some l → (mix σ σ1 (Hh (i + 1)).length).ρ b ver = some l := by
    intro b ver l h
    show (if b < (Hh (i + 1)).length then σ1.ρ b ver else σ.ρ b ver) = some l
    by_cases hb : b < (Hh i).length
    · rw [if_pos (Nat.lt_of_lt_of_le hb (hlen i (i + 1) (by omega) (by omega)))]
      exact (hlow b ver l hb).2 h
    · by_cases hb2 : b < (Hh (i + 1)).length
      · rw [hkeys b ver (by omega) hb2] at h
        cases h
      · rw [if_neg hb2]
        exact h
  have hheap : ∀ B, σ.ro B → w'.heap[B]? = w.heap[B]? := fun B hB => (d.rel i (by omega)).roKept h3 B hB
  have hroLt : ∀ B, σ.ro B → B < w.heap.size := fun B hB => (d.rel i (by omega)).roLt B hB
  have mono : ∀ n x v, AR (rs σ n) w x v → AR (rs (mix σ σ1 (Hh (i + 1)).length) n) w' x v := fun n x v h =>
    AR.mono (σ := rs σ n) (σ' := rs (mix σ σ1 (Hh (i + 1)).length) n) (w := w) (w' := w') (fun b ver l hl => rs_of (rs_some hl).1 (hsub b ver l (rs_some hl).2)) (fun B hB => Or.inr hB) (fun B hB => hheap B hB) h
  have mono1 : ∀ n x v, (Hh (i + 1)).length ≤ n → AR σ1 w' x v → AR (rs (mix σ σ1 (Hh (i + 1)).length) n) w' x v := fun n x v hn h =>
    AR.mono (σ := σ1) (σ' := rs (mix σ σ1 (Hh (i + 1)).length) n) (w := w') (w' := w') (fun b ver l hl => by
      obtain ⟨k, hk, _⟩ := h2.fresh b ver l hl
      have hb := (List.getElem?_eq_some_iff.1 hk).1
      refine rs_of (by omega) ?_
      show (if b < (Hh (i + 1)).length then σ1.ρ b ver else σ.ρ b ver) = some l
      rw [if_pos hb]
      exact hl) (fun B hB => Or.inl hB) (fun _ _ => rfl) h
  -- a key of the mixture: an old one, or a new one
  have hcase : ∀ b ver l, (mix σ σ1 (Hh (i + 1)).length).ρ b ver = some l → σ.ρ b ver = some l ∨ ((Hh i).length ≤ b ∧ b < (Hh (i + 1)).length ∧ σ1.ρ b ver = some l) := by
    intro b ver l h
    replace h : (if b < (Hh (i + 1)).length then σ1.ρ b ver else σ.ρ b ver) = some l := h
    by_cases hb : b < (Hh i).length
    · rw [if_pos (Nat.lt_of_lt_of_le hb (hlen i (i + 1) (by omega) (by omega)))] at h
      exact .inl ((hlow b ver l hb).1 h)
    · by_cases hb2 : b < (Hh (i + 1)).length
      · rw [if_pos hb2] at h
        exact .inr ⟨by omega, hb2, h⟩
      · rw [if_neg hb2] at h
        exact .inl h
  have relm := d.rel m (Nat.le_refl _)
  -- a new block lies apart from every block there was
  have hnewB : ∀ b ver l, (Hh i).length ≤ b → b < (Hh (i + 1)).length → σ1.ρ b ver = some l → ∀ b2 k2 l2, (Hh m)[b2]? = some k2 → k2.live = true → b2 < (Hh m).length → (b2 < (Hh i).length ∨ (Hh (i + 1)).length ≤ b2) → σ.ρ b2 k2.ver = some l2 → l.B ≠ l2.B ∨ b2 < (Hh i).length := by
    intro b ver l hb1 hb2 hl b2 k2 l2 hk2 hlv2 hb2m hout hl2
    rcases hout with hout | hout
    · exact .inr hout
    · left
      intro e
      have hlt2 : l2.B < w.heap.size := relm.lt hk2 hlv2 (rs_of hb2m hl2)
      rcases h3.new b ver l hl with h | h | ⟨b0, k0, l0, g1, g2, g3, g4⟩
      · have := (rs_some h).1
        omega
      · omega
      · have hb0 := (rs_some g3).1
        have hk0 : (Hh m)[b0]? = some k0 := by rw [hpre i m b0 (by omega) (Nat.le_refl _) hb0]; exact g1
        have := relm.inj b0 b2 k0 k2 l0 l2 hk0 g2 (rs_of (Nat.lt_of_lt_of_le hb0 (hlen i m (by omega) (Nat.le_refl _))) (rs_some g3).2) hk2 hlv2 (rs_of hb2m hl2) (g4.trans e)
        omega
  have hgetM : ∀ k b kb, k ≤ m → (Hh k)[b]? = some kb → (Hh m)[b]? = some kb := fun k b kb hk h => by
    rw [hpre k m b hk (Nat.le_refl _) (List.getElem?_eq_some_iff.1 h).1]
    exact h
  have hget1 : ∀ k b kb, k ≤ m → (Hh k)[b]? = some kb → b < (Hh (i + 1)).length → (Hh (i + 1))[b]? = some kb := fun k b kb hk h hb => by
    have := hgetM k b kb hk h
    rw [hpre (i + 1) m b (by omega) (Nat.le_refl _) hb] at this
    exact this
  have hrel : ∀ k, k ≤ m → Rel G (rs (mix σ σ1 (Hh (i + 1)).length) (Hh k).length) (Hh k) w' := by
    intro k hk
    have relk := d.rel k hk
    refine ⟨?_, ?_, ?_, ?_, ?_, fun g => mono _ _ _ (relk.glob g), fun b ver l e3 => ?b0⟩
    case b0 =>
      obtain ⟨hbk, e3⟩ := rs_some e3
      rcases hcase b ver l e3 with e4 | ⟨e4, e5, e6⟩
      · exact relk.base0 b ver l (rs_of hbk e4)
      · exact h2.base0 b ver l e6
    · intro b kb l e1 e2 e3
      obtain ⟨hbk, e3⟩ := rs_some e3
      rcases hcase b kb.ver l e3 with e4 | ⟨e4, e5, e6⟩
      · obtain ⟨C, fr, c1, c2, c3, c4, c5⟩ := relk.blk b kb l e1 e2 (rs_of hbk e4)
        obtain ⟨fr', c1', c4'⟩ : ∃ fr', w'.heap[l.B]? = some (.cells C kb.elem fr') ∧ (l.lim ≤ fr'.1 ∨ fr'.1 = fr'.2) := by
          have hal := h4.heap _ (Array.getElem?_eq_some_iff.1 c1).1
          rw [c1] at hal
          generalize hw' : w'.heap[l.B]? = ob at hal
          cases hal with
          | same h => exact ⟨fr, h, c4⟩
          | marked fr fr' h => exact ⟨fr', rfl, by rw [← c2] at c4 ⊢; exact h c4⟩
        refine ⟨C, fr', c1', c2, c3, c4', fun j hj => ?_⟩
        obtain ⟨v, f1, f2⟩ := c5 j hj
        exact ⟨v, f1, mono _ _ _ f2⟩
      · obtain ⟨C, fr, c1, c2, c3, c4, c5⟩ := h2.blk b kb l (hget1 k b kb hk e1 e5) e2 e6
        refine ⟨C, fr, c1, c2, c3, c4, fun j hj => ?_⟩
        obtain ⟨v, f1, f2⟩ := c5 j hj
        have hki : i + 1 ≤ k := by
          rcases Nat.lt_or_ge k (i + 1) with h | h
          · have := hlen k i (by omega) (by omega)
            omega
          · exact h
        exact ⟨v, f1, mono1 _ _ _ (hlen (i + 1) k hki hk) f2⟩
    · intro b1 b2 k1 k2 l1 l2 e1 e2 e3 g1 g2 g3 e
      obtain ⟨hb1, e3⟩ := rs_some e3
      obtain ⟨hb2, g3⟩ := rs_some g3
      rcases hcase b1 k1.ver l1 e3 with e4 | ⟨e4, e5, e6⟩ <;> rcases hcase b2 k2.ver l2 g3 with g4 | ⟨g4, g5, g6⟩
      · exact relk.inj b1 b2 k1 k2 l1 l2 e1 e2 (rs_of hb1 e4) g1 g2 (rs_of hb2 g4) e
      · by_cases hlt : b1 < (Hh i).length
        · exact h2.inj b1 b2 k1 k2 l1 l2 (hget1 k b1 k1 hk e1 (by omega)) e2 ((hlow b1 _ l1 hlt).2 e4) (hget1 k b2 k2 hk g1 g5) g2 g6 e
        · have hge : (Hh (i + 1)).length ≤ b1 := by
            rcases Nat.lt_or_ge b1 (Hh (i + 1)).length with h | h
            · rw [hkeys b1 _ (by omega) h] at e4
              cases e4
            · exact h
          rcases hnewB b2 _ l2 g4 g5 g6 b1 k1 l1 (hgetM k b1 k1 hk e1) e2 (Nat.lt_of_lt_of_le hb1 (hlen k m hk (Nat.le_refl _))) (.inr hge) e4 with h | h
          · exact absurd e.symm h
          · omega
      · by_cases hlt : b2 < (Hh i).length
        · exact h2.inj b1 b2 k1 k2 l1 l2 (hget1 k b1 k1 hk e1 e5) e2 e6 (hget1 k b2 k2 hk g1 (by omega)) g2 ((hlow b2 _ l2 hlt).2 g4) e
        · have hge : (Hh (i + 1)).length ≤ b2 := by
            rcases Nat.lt_or_ge b2 (Hh (i + 1)).length with h | h
            · rw [hkeys b2 _ (by omega) h] at g4
              cases g4
            · exact h
          rcases hnewB b1 _ l1 e4 e5 e6 b2 k2 l2 (hgetM k b2 k2 hk g1) g2 (Nat.lt_of_lt_of_le hb2 (hlen k m hk (Nat.le_refl _))) (.inr hge) g4 with h | h
          · exact absurd e h
          · omega
      · exact h2.inj b1 b2 k1 k2 l1 l2 (hget1 k b1 k1 hk e1 e5) e2 e6 (hget1 k b2 k2 hk g1 g5) g2 g6 e
    · intro b kb l e1 e2 e3 hro
      obtain ⟨hbk, e3⟩ := rs_some e3
      rcases hcase b kb.ver l e3 with e4 | ⟨e4, e5, e6⟩
      · have hB : l.B < w.heap.size := relk.lt e1 e2 (rs_of hbk e4)
        rcases hro with hro | hro
        · rcases h3.roNew _ hro with h | h | ⟨b0, k0, l0, g1, g2, g3, g4⟩
          · exact relk.apart b kb l e1 e2 (rs_of hbk e4) h
          · omega
          · have hb0 := (rs_some g3).1
            have hbm : b < (Hh m).length := Nat.lt_of_lt_of_le hbk (hlen k m hk (Nat.le_refl _))
            have := relm.inj b0 b k0 kb l0 l (hgetM i b0 k0 (by omega) g1) g2 (rs_of (Nat.lt_of_lt_of_le hb0 (hlen i m (by omega) (Nat.le_refl _))) (rs_some g3).2) (hgetM k b kb hk e1) e2 (rs_of hbm e4) g4
            subst this
            exact h2.apart b0 kb l (hget1 k b0 kb hk e1 (Nat.lt_of_lt_of_le hb0 (hlen i (i + 1) (by omega) (by omega)))) e2 ((hlow b0 _ l hb0).2 e4) hro
        · exact relk.apart b kb l e1 e2 (rs_of hbk e4) hro
      · have hro1 : σ1.ro l.B := by
          rcases hro with hro | hro
          · exact hro
          · exact h3.ro _ hro
        exact h2.apart b kb l (hget1 k b kb hk e1 e5) e2 e6 hro1
    · intro B hB
      rcases hB with hB | hB
      · exact h2.roLt B hB
      · exact Nat.lt_of_lt_of_le (hroLt B hB) h3.size
    · intro b ver l h
      obtain ⟨hbk, h⟩ := rs_some h
      rcases hcase b ver l h with e4 | ⟨e4, e5, e6⟩
      · exact relk.fresh b ver l (rs_of hbk e4)
      · obtain ⟨k0, f1, f2⟩ := h2.fresh b ver l e6
        refine ⟨k0, ?_, f2⟩
        have hki : i + 1 ≤ k := by
          rcases Nat.lt_or_ge k (i + 1) with h | h
          · have := hlen k i (by omega) (by omega)
            omega
          · exact h
        rw [hpre (i + 1) k b hki hk e5]
        exact f1
  refine ⟨(Act.put_def _ _ _).trans d.defers, (Act.put_size _ _ _).trans d.size, by simpa using d.lsize, ?_, ?_, ?_, ?_, hrel, ?_, ?_⟩
  · intro k ok hk hok e he hb
    rw [set_get hil] at hk ⊢
    by_cases hik : i = k
    · subst hik
      rw [ho] at hok
      cases hok
      split
      · rfl
      · exact hrd e he hb
    · rw [if_neg hik] at hk
      split
      · rfl
      · exact d.closed k ok hk hok e he hb
  · intro k hk hLk
    rw [set_get hil, if_neg (by omega)]
    exact d.tailUn k hk hLk
  · intro s hs hall hL
    have hne : o.dst ≠ some s := fun hd => by
      have := hall i o hi ho hd
      rw [set_get hil, if_pos rfl] at this
      cases this
    rw [put_getD _ _ _ _ (by rw [d.size]; exact hs), if_neg hne]
    refine mono _ _ _ (d.old s hs (fun k ok hk hok hdk => ?_) fun l ol hl hol hdl => ?_)
    · have := hall k ok hk hok hdk
      rw [set_get hil] at this
      split at this
      · cases this
      · exact this
    · have := hL l ol hl hol hdl
      rw [set_get hil, if_neg (fun e => by have := (ord.lge l ol hl hol).1; omega)] at this
      exact this
  · intro k ok s hk hok hdk hs hl
    rw [put_getD _ _ _ _ (by rw [d.size]; exact hs)]
    rw [set_get hil] at hl
    by_cases hik : i = k
    · subst hik
      rw [ho] at hok
      cases hok
      rw [if_pos hdk]
      exact mono1 _ _ _ (Nat.le_refl _) h1
    · rw [if_neg (ord.dst i k o ok s hi hk hik ho hok hdk)]
      rw [if_neg hik] at hl
      exact mono _ _ _ (d.new k ok s hk hok hdk hs hl)
  · refine d.ext.trans ⟨h3.os, h3.tape, h3.output, h3.size, fun b ver l hl => rs_of (rs_some hl).1 (hsub b ver l (rs_some hl).2), fun B hB => Or.inr hB, fun B hB hn => h3.frame B hB (fun ⟨b0, k0, l0, g1, g2, g3, g4⟩ => hn ⟨b0, k0, l0, hgetM i b0 k0 (by omega) g1, g2, rs_of (Nat.lt_of_lt_of_le (rs_some g3).1 (hlen i m (by omega) (Nat.le_refl _))) (rs_some g3).2, g4⟩), fun b ver l hl => ?_, fun b k' l g1 g2 g3 => ⟨k', g1, g2, rfl⟩, fun B hB => ?_, Nat.le_refl _⟩
    · obtain ⟨hbm, hl⟩ := rs_some hl
      rcases hcase b ver l hl with e4 | ⟨e4, e5, e6⟩
      · exact .inl (rs_of hbm e4)
      · rcases h3.new b ver l e6 with h | h | ⟨b0, k0, l0, g1, g2, g3, g4⟩
        · have := (rs_some h).1
          omega
        · exact .inr (.inl h)
        · have hb0 := (rs_some g3).1
          exact .inr (.inr ⟨b0, k0, l0, hgetM i b0 k0 (by omega) g1, g2, rs_of (Nat.lt_of_lt_of_le hb0 (hlen i m (by omega) (Nat.le_refl _))) (rs_some g3).2, g4⟩)
    · rcases hB with hB | hB
      · rcases h3.roNew B hB with h | h | ⟨b0, k0, l0, g1, g2, g3, g4⟩
        · exact .inl h
        · exact .inr (.inl h)
        · have hb0 := (rs_some g3).1
          exact .inr (.inr ⟨b0, k0, l0, hgetM i b0 k0 (by omega) g1, g2, rs_of (Nat.lt_of_lt_of_le hb0 (hlen i m (by omega) (Nat.le_refl _))) (rs_some g3).2, g4⟩)
      · exact .inl hB
  · intro k hk hl b ver hb1 hb2
    rw [set_get hil] at hl
    by_cases hik : i = k
    · rw [if_pos hik] at hl
      cases hl
    · rw [if_neg hik] at hl
      have hold := d.keys k hk hl b ver hb1 hb2
      cases hc : (mix σ σ1 (Hh (i + 1)).length).ρ b ver with
      | none => rfl
      | some l =>
        rcases hcase b ver l hc with e4 | ⟨e4, e5, e6⟩
        · rw [hold] at e4
          cases e4
        · rcases Nat.lt_or_ge k i with h | h
          · have := hlen (k + 1) i (by omega) (by omega)
            omega
          · have := hlen (i + 1) k (by omega) (by omega)
            omega
end
end Go.Abs
namespace Go.Abs
set_option linter.unusedVariables false
set_option linter.unusedSimpArgs false
variable {P : Program} {G : Glob} {σ : Sig} {H : AHeap} {w : World}
section
variable {ops : Array Oper} {m : Nat} {T : Nat → List AV} {Hh : Nat → AHeap} {V : Nat → AV} {σ0 : Sig} {w0 : World} {Q : Exit → Act → World → Prop}
theorem some_ready (hlow : ∀ i o, ops[i]? = some o → ∀ e ∈ o.after, Region.binds .any e = true → e.on < i) {listed : Array Bool} (hs : listed.size = ops.size) :
    ∀ k, k ≤ ops.size → (∃ i, i < k ∧ listed.getD i false = false) → ∃ i, i < k ∧ i ∈ Region.ready .any ops listed := by
  intro k
  induction k with
  | zero => rintro _ ⟨i, h, _⟩; omega
  | succ k ih =>
    rintro hk ⟨i, hi, hun⟩
    by_cases hex : ∃ j, j < k ∧ listed.getD j false = false
    · obtain ⟨j, hj, hr⟩ := ih (by omega) hex
      exact ⟨j, by omega, hr⟩
    · have hall : ∀ j, j < k → listed.getD j false = true := fun j hj => by
        cases h : listed.getD j false with
        | true => rfl
        | false => exact absurd ⟨j, hj, h⟩ hex
      have hik : i = k := by
        rcases Nat.lt_or_ge i k with h | h
        · rw [hall i h] at hun
          cases hun
        · omega
      subst hik
      have hget : ops[i]? = some ops[i] := Array.getElem?_eq_getElem (by omega)
      have hlt : i < listed.size := by omega
      refine ⟨i, hi, mem_ready.2 ⟨?_, _, hget, fun e he hb => hall _ (hlow i _ hget e he hb)⟩⟩
      simpa [hlt] using hun
theorem ready_un {listed : Array Bool} {i : Nat} (h : i ∈ Region.ready .any ops listed) (hs : listed.size = ops.size) : listed.getD i false = false ∧ i < ops.size := by
  obtain ⟨h1, o, ho, _⟩ := mem_ready.1 h
  have hlt := (Array.getElem?_eq_some_iff.1 ho).1
  exact ⟨by simpa [show i < listed.size by omega] using h1, hlt⟩
/-- The rest, one behind the other. -/
theorem tail_any (ord : Ord ops m (fun _ => false)) : ∀ (fuel k : Nat) (listed : Array Bool) (a : Act) (w : World), m ≤ k → k ≤ ops.size → ops.size ≤ fuel + k → listed.size = ops.size → (∀ i, listed.getD i false = true ↔ i < k) →
    (∀ i o, listed.getD i false = true → ops[i]? = some o → ∀ e ∈ o.after, Region.binds .any e = true → listed.getD e.on false = true) → wpList P ops Q (ops.toList.drop k) a w → wpAny P .any ops Q fuel listed a w := by
  intro fuel
  induction fuel with
  | zero =>
    intro k listed a w hm hk hf hs hl hc h
    obtain rfl : k = ops.size := by omega
    rw [List.drop_of_length_le (by simp)] at h
    refine ⟨?_, h⟩
    rw [List.eq_nil_iff_forall_not_mem]
    intro i hi
    obtain ⟨h1, h2⟩ := ready_un hi hs
    rw [(hl i).2 h2] at h1
    cases h1
  | succ fuel ih =>
    intro k listed a w hm hk hf hs hl hc h
    by_cases hke : k = ops.size
    · subst hke
      rw [List.drop_of_length_le (by simp)] at h
      refine ⟨fun _ => h, fun i hi => ?_⟩
      obtain ⟨h1, h2⟩ := ready_un hi hs
      rw [(hl i).2 h2] at h1
      cases h1
    · have hlt : k < ops.size := by omega
      have hget : ops[k]? = some ops[k] := Array.getElem?_eq_getElem hlt
      refine ⟨fun hr => ?_, fun i hi => ?_⟩
      · obtain ⟨i, _, hi⟩ := some_ready ord.low hs ops.size (Nat.le_refl _) ⟨k, hlt, by cases hx : listed.getD k false with | false => rfl | true => have := (hl k).1 hx; omega⟩
        rw [hr] at hi
        cases hi
      · obtain ⟨h1, h2⟩ := ready_un hi hs
        have hik : i = k := by
          rcases Nat.lt_trichotomy i k with h3 | h3 | h3
          · rw [(hl i).2 h3] at h1
            cases h1
          · exact h3
          · obtain ⟨_, o, ho, hrd⟩ := mem_ready.1 hi
            have := bef_listed ord.low hc i o ho (fun e he hb => hrd e he hb) k (ord.tail i (by omega) h2 rfl k h3 rfl)
            have := (hl k).1 this
            omega
        subst hik
        rw [List.drop_eq_getElem_cons (by simpa using hlt)] at h
        simp only [Array.getElem_toList] at h
        unfold wpOp
        rw [hget]
        simp only
        have hrest : ∀ a w, wpList P ops Q (ops.toList.drop (i + 1)) a w → wpAny P .any ops Q fuel (listed.setIfInBounds i true) a w := by
          intro a w h
          have hil : i < listed.size := by omega
          refine ih (i + 1) _ a w (by omega) (by omega) (by omega) (by simpa using hs) (fun j => ?_) (fun j o hj ho e he hb => ?_) h
          · rw [set_get hil]
            by_cases hij : i = j
            · subst hij
              simp
            · rw [if_neg hij, hl j]
              omega
          · rw [set_get hil] at hj ⊢
            by_cases hij : i = j
            · subst hij
              split
              · rfl
              · obtain ⟨_, o', ho', hrd⟩ := mem_ready.1 hi
                rw [ho] at ho'
                cases ho'
                exact hrd e he hb
            · rw [if_neg hij] at hj
              split
              · rfl
              · exact hc j o hj ho e he hb
        unfold wpList at h
        split
        · rename_i hw
          rw [if_pos hw] at h
          rcases h with h | h
          · exact .inl (Oper.wp_mono hrest h)
          · exact .inr h
        · rename_i hw
          rw [if_neg hw] at h
          exact hrest _ _ h
theorem DInv.listedLt {listed : Array Bool} {a : Act} (d : DInv G (fun _ => false) ops m T Hh V σ0 w0 σ listed a w) {i : Nat} (h : listed.getD i false = true) : i < m := by
  rcases Nat.lt_or_ge i m with h' | h'
  · exact h'
  · rw [d.tailUn i h' rfl] at h
    cases h
theorem draw_any (ord : Ord ops m (fun _ => false)) (hst : ∀ i, i < m → ∀ o, ops[i]? = some o → StepAt P G ops o (T i) (T (i + 1)) (Hh i) (Hh (i + 1)) (V i))
    (hend : ∀ (σ : Sig) (a : Act) (w : World), Sim G σ (T m) (Hh m) a w → Ext σ0 (Hh 0) w0 σ (Hh m) w → wpList P ops Q (ops.toList.drop m) a w) :
    ∀ (fuel : Nat) (listed : Array Bool) (a : Act) (w : World) (σ : Sig), DInv G (fun _ => false) ops m T Hh V σ0 w0 σ listed a w → ∀ (n : Nat), n = ((List.range m).filter fun i => !listed.getD i false).length → ops.size - m + n ≤ fuel → wpAny P .any ops Q fuel listed a w := by
  intro fuel
  induction fuel with
  | zero =>
    intro listed a w σ d n hn hf
    have hall : ∀ i, i < m → listed.getD i false = true := fun i hi => by
      cases h : listed.getD i false with
      | true => rfl
      | false =>
        have : i ∈ (List.range m).filter fun i => !listed.getD i false := List.mem_filter.2 ⟨by simpa using hi, by simp [h]⟩
        have := List.length_pos_of_mem this
        omega
    exact tail_any ord 0 m listed a w (Nat.le_refl _) ord.le (by omega) d.lsize (fun i => ⟨fun h => d.listedLt h, fun h => hall i h⟩) d.closed (hend _ _ _ ((d.all ord hst hall).down fun _ _ h => by cases h) d.ext)
  | succ fuel ih =>
    intro listed a w σ d n hn hf
    by_cases hall : ∀ i, i < m → listed.getD i false = true
    · exact tail_any ord (fuel + 1) m listed a w (Nat.le_refl _) ord.le (by omega) d.lsize (fun i => ⟨fun h => d.listedLt h, fun h => hall i h⟩) d.closed (hend _ _ _ ((d.all ord hst hall).down fun _ _ h => by cases h) d.ext)
    · have hex : ∃ i, i < m ∧ listed.getD i false = false := by
        refine Classical.byContradiction fun hn => hall fun i hi => ?_
        cases h : listed.getD i false with
        | true => rfl
        | false => exact absurd ⟨i, hi, h⟩ hn
      refine ⟨fun hr => ?_, fun i hi => ?_⟩
      · obtain ⟨i, _, hi⟩ := some_ready ord.low d.lsize m ord.le hex
        rw [hr] at hi
        cases hi
      · obtain ⟨h1, h2⟩ := ready_un hi d.lsize
        obtain ⟨_, o, ho, hrd⟩ := mem_ready.1 hi
        have him : i < m := by
          rcases Nat.lt_or_ge i m with h | h
          · exact h
          · obtain ⟨j, hj, hjun⟩ := hex
            have := bef_listed ord.low d.closed i o ho (fun e he hb => hrd e he hb) j (ord.tail i h h2 rfl j (by omega) rfl)
            rw [hjun] at this
            cases this
        have hrd' : ∀ e ∈ o.after, Region.binds .any e = true → listed.getD e.on false = true := fun e he hb => hrd e he hb
        have hil : i < listed.size := by rw [d.lsize]; exact h2
        -- one fewer is left
        have hcount : ∀ (σ' : Sig) (a' : Act) (w' : World), DInv G (fun _ => false) ops m T Hh V σ0 w0 σ' (listed.setIfInBounds i true) a' w' → wpAny P .any ops Q fuel (listed.setIfInBounds i true) a' w' := by
          intro σ' a' w' d'
          refine ih _ _ _ σ' d' _ rfl ?_
          have hlt : ((List.range m).filter fun j => !(listed.setIfInBounds i true).getD j false).length < ((List.range m).filter fun j => !listed.getD j false).length := by
            have e : ((List.range m).filter fun j => !(listed.setIfInBounds i true).getD j false) = ((List.range m).filter fun j => !listed.getD j false).filter fun j => j != i := by
              rw [List.filter_filter]
              congr 1
              funext j
              rw [set_get hil]
              by_cases hij : i = j
              · subst hij
                simp
              · simp only [hij, if_false]
                have : (j != i) = true := by simp; exact fun e => hij e.symm
                simp [this]
            rw [e]
            have hmem : i ∈ (List.range m).filter fun j => !listed.getD j false := List.mem_filter.2 ⟨by simpa using him, by simp [h1]⟩
            refine Nat.lt_of_le_of_ne (List.length_filter_le _ _) fun he => ?_
            have := (List.length_filter_eq_length_iff.1 he) i hmem
            simp at this
          omega
        have hlen0 := run_len hst ord.le i (by omega)
        obtain ⟨e1, ⟨N, hN⟩, wd, hw, hstep⟩ := hst i him o ho
        have hslot : ∀ s, s ∈ readsOf ops o → AR (rs σ (Hh i).length) w ((T i).getD s .any) (a.tmps.getD s undef) ∧ (s < a.tmps.size ∨ (T i).getD s .any = .any) := by
          intro s hs
          by_cases hlt : s < (T 0).length
          · exact ⟨d.slot ord hst him ho h1 hrd' hlt hs, .inl (by rw [d.size]; exact hlt)⟩
          · have hge : (T i).length ≤ s := by rw [hlen0]; exact Nat.le_of_not_lt hlt
            have : (T i).getD s .any = .any := by simp [List.getD_eq_getElem?_getD, List.getElem?_eq_none hge]
            rw [this]
            exact ⟨.any _, .inr rfl⟩
        have hwd : Region.wanted o (yielded ops a.tmps) = wd := hw (rs σ (Hh i).length) w a fun g want dd hg hd => hslot dd (by simp [readsOf, hg, hd])
        unfold wpOp
        rw [ho]
        simp only
        rw [hwd]
        cases wd with
        | true =>
          simp only [if_true] at hstep ⊢
          refine .inl (hstep (rs σ (Hh i).length) w a _ Q (fun x hx => ?_) (d.rel i (by omega)) fun u w' ⟨σ1, f1, f2, f3, f4⟩ => hcount _ _ _ (d.step ord hst him ho h1 hrd' f1 f2 f3 (f4 rfl)))
          cases x with
          | tmp s =>
            have hs : s ∈ readsOf ops o := by
              simp only [readsOf, List.mem_append, List.mem_filterMap]
              exact .inl ⟨.tmp s, by simpa using hx, rfl⟩
            exact (hslot s hs).1
          | const c => exact toAV_ar c
          | global g => exact (d.rel i (by omega)).glob g
          | func f => exact .fn #[] rfl (fun j hj => by simp at hj)
        | false =>
          simp only [Bool.false_eq_true, if_false] at hstep ⊢
          obtain ⟨hv, hH⟩ := hstep
          refine hcount _ _ _ (d.step (σ1 := rs σ (Hh i).length) (w' := w) ord hst him ho h1 hrd' (by rw [hv]; exact .v _) (by rw [hH]; exact d.rel i (by omega)) (by rw [hH]; exact Ext.refl _ _ _) (Quiet.refl _ _ _))
end
end Go.Abs
namespace Go.Abs
set_option linter.unusedVariables false
set_option linter.unusedSimpArgs false
variable {P : Program} {G : Glob} {σ : Sig} {H : AHeap} {w : World}
def loudOp (P : Program) (imp : FuncId → Bool) : Op → Bool
  | .store _ _ _ => true
  | .call { callee := .builtin .append, args, .. } => match args.toList with | .tmp s :: _ => !imp (1000000 + s) | _ => true
  | .call { callee := .builtin .copy, .. } => true
  | .call { callee := .builtin .unsafeString, .. } => true
  | .call { callee := .value (.func f), .. } => imp f
  | _ => false
def mOf (P : Program) (imp : FuncId → Bool) : List Oper → Nat
  | [] => 0
  | o :: r => if loudOp P imp o.op then 0 else mOf P imp r + 1
def areg (P : Program) (G : Glob) (imp : FuncId → Bool) (ops : Array Oper) (draw : Bool) (t : List AV) (H : AHeap) (K : List AV → AHeap → Prop) : Prop :=
  match draw with
  | true => ordB ops (mOf P imp ops.toList) = true ∧ aops P G true ops (ops.toList.take (mOf P imp ops.toList)) t H fun t' H' => aops P G false ops (ops.toList.drop (mOf P imp ops.toList)) t' H' K
  | false => aops P G false ops ops.toList t H K
def ALe0 : List AV → List AV → Prop
  | [], [] => True
  | x :: xs, y :: ys => (y = .any ∨ x = y) ∧ ALe0 xs ys
  | _, _ => False
theorem ALe0.refl : ∀ xs : List AV, ALe0 xs xs
  | [] => trivial
  | x :: xs => ⟨.inr rfl, ALe0.refl xs⟩
theorem ALe0.length : ∀ {xs ys : List AV}, ALe0 xs ys → xs.length = ys.length
  | [], [], _ => rfl
  | x :: xs, y :: ys, h => by simp [ALe0.length h.2]
  | [], _ :: _, h => h.elim
  | _ :: _, [], h => h.elim
theorem ALe0.get : ∀ {xs ys : List AV}, ALe0 xs ys → ∀ j, ys.getD j .any = .any ∨ xs.getD j .any = ys.getD j .any
  | [], [], _, j => .inr rfl
  | x :: xs, y :: ys, h, 0 => by simpa using h.1
  | x :: xs, y :: ys, h, j + 1 => by simpa using ALe0.get h.2 j
  | [], _ :: _, h, _ => h.elim
  | _ :: _, [], h, _ => h.elim
/-- What is known may be less. (A structure: nothing looks into it by itself.) -/
structure ALe (xs ys : List AV) : Prop where
  out : ALe0 xs ys
theorem ALe.refl (xs : List AV) : ALe xs xs := ⟨ALe0.refl xs⟩
theorem ALe.length {xs ys : List AV} (h : ALe xs ys) : xs.length = ys.length := ALe0.length h.out
theorem ALe.get {xs ys : List AV} (h : ALe xs ys) : ∀ j, ys.getD j .any = .any ∨ xs.getD j .any = ys.getD j .any := ALe0.get h.out
theorem ALe.sim {t t' : List AV} {a : Act} (h : ALe t t') (s : Sim G σ t H a w) : Sim G σ t' H a w := by
  refine ⟨s.defers, s.size.trans h.length, fun j hj => ?_, s.rel⟩
  rcases h.get j with e | e
  · rw [e]
    exact .any _
  · rw [← e]
    exact s.tmps j (by rw [h.length]; exact hj)
abbrev APost := Exit → List AV → AHeap → Prop
def avc (P : Program) (G : Glob) (imp : FuncId → Bool) : Code → List AV → AHeap → APost → Prop
  | .skip, t, H, Q => Q .normal t H
  | .region _ ops draw, t, H, Q => areg P G imp ops draw t H (Q .normal)
  | .seq a b, t, H, Q => avc P G imp a t H fun e t' H' => match e with
    | .normal => avc P G imp b t' H' Q
    | e => Q e t' H'
  | .cond c a b, t, H, Q => match aenv G t c with
    | .v (.bool x) => (x = true → avc P G imp a t H Q) ∧ (x = false → avc P G imp b t H Q)
    | _ => False
  | .block id c, t, H, Q => avc P G imp c t H fun e t' H' => match e with
    | .exit i => if i = id then Q .normal t' H' else Q (.exit i) t' H'
    | e => Q e t' H'
  | .loop c, t, H, Q => ∃ (X : Type) (I : Nat → X → Prop) (mk : X → List AV) (hp : X → AHeap) (n0 : Nat) (x0 : X), I n0 x0 ∧ ALe t (mk x0) ∧ H = hp x0 ∧
      ∀ n x, I n x → avc P G imp c (mk x) (hp x) fun e t' H' => match e with
        | .normal => ∃ n' x', n' < n ∧ I n' x' ∧ ALe t' (mk x') ∧ H' = hp x'
        | e => Q e t' H'
  | .exit id, t, H, Q => Q (.exit id) t H
  | .label _, t, H, Q => Q .normal t H
  | .ret, t, H, Q => Q .ret t H
  | _, _, _, _ => False
/-- The machine's side of a post. -/
def CPost (G : Glob) (σ0 : Sig) (H0 : AHeap) (w0 : World) (Q : APost) (e : Exit) (a : Act) (w : World) : Prop := ∃ t H σ, Q e t H ∧ Sim G σ t H a w ∧ Ext σ0 H0 w0 σ H w
theorem areg_ok {imp : FuncId → Bool} (hmix : P.follows .mixedOrders = true) {id : Nat} {ops : Array Oper} {draw : Bool} {t : List AV} {K : List AV → AHeap → Prop} (h : areg P G imp ops draw t H K) {a : Act} (s : Sim G σ t H a w) {Q : Exit → Act → World → Prop}
    (hQ : ∀ t' H' σ' a' w', K t' H' → Sim G σ' t' H' a' w' → Ext σ H w σ' H' w' → Q .normal a' w') : (Code.region id ops draw).wp P Q a w := by
  cases draw with
  | false => exact wp_region_list (aops_list h σ a w s hQ)
  | true =>
    obtain ⟨hord, h⟩ := h
    have ord := Ord.of hord
    obtain ⟨T, Hh, V, e1, e2, hK, hst⟩ := aops_run h
    generalize hm : mOf P imp ops.toList = m at *
    have hlen : (ops.toList.take m).length = m := by rw [List.length_take]; have := ord.le; simp; omega
    rw [hlen] at hK
    have hst' : ∀ i, i < m → ∀ o, ops[i]? = some o → StepAt P G ops o (T i) (T (i + 1)) (Hh i) (Hh (i + 1)) (V i) := fun i hi o ho => hst i o (by rw [List.getElem?_take, if_pos hi]; simpa using ho)
    have hw0 : ({ w with drawn := w.drawn + 1 } : World).heap = w.heap := rfl
    have s0 : Sim G σ (T 0) (Hh 0) a { w with drawn := w.drawn + 1 } := by
      rw [e1, e2]
      exact ⟨s.defers, s.size, fun j hj => (s.tmps j hj).drew hw0, s.rel.drew hw0⟩
    refine wp_region_any hmix (draw_any (σ0 := σ) (w0 := { w with drawn := w.drawn + 1 }) ord hst' (fun σ1 a1 w1 s1 x1 => ?_) ops.size _ a _ σ (DInv.start ord hst' s0.lift) _ rfl ?_)
    · refine aops_list hK σ1 a1 w1 s1 fun t' H' σ' a' w' k1 k2 k3 => hQ t' H' σ' a' w' k1 k2 ?_
      rw [e2] at x1
      exact (Ext.drew (w := w) (w' := { w with drawn := w.drawn + 1 }) rfl rfl rfl rfl).trans (x1.trans k3)
    · have : ((List.range m).filter fun i => !(Array.replicate ops.size false).getD i false).length ≤ m := by
        refine Nat.le_trans (List.length_filter_le _ _) ?_
        simp
      have := ord.le
      omega
theorem avc_ok {imp : FuncId → Bool} (hmix : P.follows .mixedOrders = true) : ∀ (c : Code) (t : List AV) (H : AHeap) (Q : APost), avc P G imp c t H Q → ∀ (σ0 : Sig) (H0 : AHeap) (w0 : World) (σ : Sig) (a : Act) (w : World), Sim G σ t H a w → Ext σ0 H0 w0 σ H w → c.wp P (CPost G σ0 H0 w0 Q) a w
  | .skip, t, H, Q, h, σ0, H0, w0, σ, a, w, s, x => wp_skip ⟨t, H, σ, h, s, x⟩
  | .region id ops draw, t, H, Q, h, σ0, H0, w0, σ, a, w, s, x => areg_ok hmix h s fun t' H' σ' a' w' k1 k2 k3 => ⟨t', H', σ', k1, k2, x.trans k3⟩
  | .seq c d, t, H, Q, h, σ0, H0, w0, σ, a, w, s, x => by
    refine wp_seq (Code.wp_mono (fun e a' w' hq => ?_) (avc_ok hmix c t H _ h σ0 H0 w0 σ a w s x))
    obtain ⟨t', H', σ', k1, k2, k3⟩ := hq
    cases e with
    | normal => exact avc_ok hmix d t' H' Q k1 σ0 H0 w0 σ' a' w' k2 k3
    | _ => exact ⟨t', H', σ', k1, k2, k3⟩
  | .cond c x y, t, H, Q, h, σ0, H0, w0, σ, a, w, s, xt => by
    simp only [avc] at h
    have hc := s.env c
    split at h
    · rename_i b hb
      rw [hb] at hc
      have hv : a.eval c = .bool b := by
        generalize a.eval c = u at *
        cases hc
        rfl
      refine wp_cond_split hv (fun hb => avc_ok hmix x t H Q (h.1 hb) σ0 H0 w0 σ a w s xt) (fun hb => avc_ok hmix y t H Q (h.2 hb) σ0 H0 w0 σ a w s xt)
    · exact h.elim
  | .block id c, t, H, Q, h, σ0, H0, w0, σ, a, w, s, x => by
    refine wp_block (Code.wp_mono (fun e a' w' hq => ?_) (avc_ok hmix c t H _ h σ0 H0 w0 σ a w s x))
    obtain ⟨t', H', σ', k1, k2, k3⟩ := hq
    cases e with
    | exit i =>
      simp only [Exit.inBlock]
      simp only at k1
      by_cases hi : i = id
      · rw [if_pos hi] at k1 ⊢
        exact ⟨t', H', σ', k1, k2, k3⟩
      · rw [if_neg hi] at k1 ⊢
        exact ⟨t', H', σ', k1, k2, k3⟩
    | _ => exact ⟨t', H', σ', k1, k2, k3⟩
  | .loop c, t, H, Q, h, σ0, H0, w0, σ, a, w, s, x => by
    obtain ⟨X, I, mk, hp, n0, x0, hI, hle, rfl, hround⟩ := h
    refine wp_loop_ghost (fun n a' w' => ∃ x' σ', I n x' ∧ Sim G σ' (mk x') (hp x') a' w' ∧ Ext σ0 H0 w0 σ' (hp x') w') n0 ⟨x0, σ, hI, hle.sim s, x⟩ ?_
    rintro n a' w' ⟨x', σ', hI', s', xt'⟩
    refine Code.wp_mono (fun e a2 w2 hq => ?_) (avc_ok hmix c _ _ _ (hround n x' hI') σ0 H0 w0 σ' a' w' s' xt')
    obtain ⟨t2, H2, σ2, k1, k2, k3⟩ := hq
    cases e with
    | normal =>
      obtain ⟨n', x2, hlt, hI2, hle2, rfl⟩ := k1
      exact ⟨n', hlt, x2, σ2, hI2, hle2.sim k2, k3⟩
    | _ => exact ⟨t2, H2, σ2, k1, k2, k3⟩
  | .exit id, t, H, Q, h, σ0, H0, w0, σ, a, w, s, x => wp_exit ⟨t, H, σ, h, s, x⟩
  | .label l, t, H, Q, h, σ0, H0, w0, σ, a, w, s, x => wp_label ⟨t, H, σ, h, s, x⟩
  | .ret, t, H, Q, h, σ0, H0, w0, σ, a, w, s, x => wp_ret ⟨t, H, σ, h, s, x⟩
  | .rangeFunc _ _ _ _, t, H, Q, h, _, _, _, _, _, _, _, _ => by simp [avc] at h
  | .scope _, t, H, Q, h, _, _, _, _, _, _, _, _ => by simp [avc] at h
  | .goto _, t, H, Q, h, _, _, _, _, _, _, _, _ => by simp [avc] at h
  | .refuse _, t, H, Q, h, _, _, _, _, _, _, _, _ => by simp [avc] at h
end Go.Abs
namespace Go.Abs
set_option linter.unusedVariables false
set_option linter.unusedSimpArgs false
variable {P : Program} {G : Glob} {σ : Sig} {H : AHeap} {w : World}
def aret1 (P : Program) (t : List AV) (H : AHeap) (x : ResultVar) (K : AV → Prop) : Prop :=
  match x with
  | .tmp s => K (t.getD s .any)
  | .cell p ty => aLoad P H ty (t.getD p .any) K
def aretL (P : Program) (t : List AV) (H : AHeap) : List ResultVar → (List AV → Prop) → Prop
  | [], K => K []
  | x :: xs, K => aret1 P t H x fun r => aretL P t H xs fun rs => K (r :: rs)
def aret (P : Program) (t : List AV) (H : AHeap) (xs : List ResultVar) (K : AV → Prop) : Prop :=
  aretL P t H xs fun rs => match rs with
    | [r] => K r
    | rs => K (.tup rs)
def res1 (tmps : Array Value) : ResultVar → Sem Value
  | .tmp t => pure (tmps.getD t undef)
  | .cell a t => do loadVar t (← asAddr (tmps.getD a undef))
theorem aret1_ok {t : List AV} {x : ResultVar} {K : AV → Prop} {a : Act} (s : Sim G σ t H a w) (h : aret1 P t H x K) : ∃ r u, K r ∧ (res1 a.tmps x).run P w = .ok u w ∧ AR σ w r u := by
  cases x with
  | tmp i => exact ⟨_, _, h, rfl, s.env (.tmp i)⟩
  | cell p ty =>
    have hp : AR σ w (t.getD p .any) (a.tmps.getD p undef) := s.env (.tmp p)
    obtain ⟨r, hK, hr⟩ := aLoad_ok (P := P) G h
    obtain ⟨u, h1, h2⟩ := hr σ w _ s.rel hp
    refine ⟨r, u, hK, ?_, h2⟩
    replace h : aLoad P H ty (t.getD p .any) K := h
    unfold aLoad at h
    cases hv : t.getD p .any <;> rw [hv] at h hp <;> try (exact h.elim)
    all_goals
      show (asAddr (a.tmps.getD p undef) >>= fun x => loadVar ty x).run P w = _
      generalize a.tmps.getD p undef = up at *
      cases hp
      simp only [asAddr, Sem.run_bind, Sem.run_pure, Result.andThen_ok]
      simpa only [Instr.loadAt, Instr.sureAddr, Sem.run_bind, Sem.run_pure, Result.andThen_ok] using h1
theorem aretL_ok {t : List AV} {a : Act} (s : Sim G σ t H a w) : ∀ {xs : List ResultVar} {K : List AV → Prop}, aretL P t H xs K → ∃ (rs : List AV) (us : List Value), K rs ∧ (xs.mapM (res1 a.tmps)).run P w = .ok us w ∧ us.length = rs.length ∧ ∀ j, j < rs.length → AR σ w (rs.getD j .any) (us.getD j undef)
  | [], K, h => ⟨[], [], h, by simp, rfl, fun j hj => by simp at hj⟩
  | x :: xs, K, h => by
    obtain ⟨r, u, h, h1, h2⟩ := aret1_ok s h
    obtain ⟨rs, us, hK, h3, h4, h5⟩ := aretL_ok s h
    refine ⟨r :: rs, u :: us, hK, ?_, by simp [h4], fun j hj => ?_⟩
    · simp [List.mapM_cons, h1, h3]
    · cases j with
      | zero => simpa using h2
      | succ j => simpa using h5 j (by simpa using hj)
theorem aret_ok {t : List AV} {a : Act} (s : Sim G σ t H a w) {fn : Func} {K : AV → Prop} (h : aret P t H fn.results.toList K) : ∃ r u, K r ∧ (results fn a.tmps).run P w = .ok u w ∧ AR σ w r u := by
  obtain ⟨rs, us, hK, h1, h2, h3⟩ := aretL_ok s h
  have hrun : (results fn a.tmps).run P w = .ok (if h : us.toArray.size = 1 then us.toArray[0] else .tuple us.toArray) w := by
    have e : (fn.results.mapM (res1 a.tmps)).run P w = .ok us.toArray w := by
      rw [Array.mapM_eq_mapM_toList]
      simp [h1]
    unfold results
    have e2 : (fn.results.mapM fun x => match x with | .tmp t => pure (a.tmps.getD t undef) | .cell p t => do loadVar t (← asAddr (a.tmps.getD p undef)) : Sem (Array Value)) = fn.results.mapM (res1 a.tmps) := by
      congr 1
    rw [Sem.run_bind]
    show ((fn.results.mapM fun x => match x with | .tmp t => pure (a.tmps.getD t undef) | .cell p t => do loadVar t (← asAddr (a.tmps.getD p undef)) : Sem (Array Value)).run P w).andThen _ = _
    rw [e2, e]
    simp only [Result.andThen_ok, Sem.run_pure]
  match rs, us, h2, hK, h3, hrun with
  | [], [], _, hK, h3, hrun => exact ⟨_, _, hK, hrun, .tup #[] rfl (fun j hj => by simp at hj)⟩
  | [r], [u], _, hK, h3, hrun => exact ⟨r, u, hK, by rw [hrun]; rfl, by simpa using h3 0 (by simp)⟩
  | r :: r2 :: rs, u :: u2 :: us, h2, hK, h3, hrun =>
    refine ⟨_, .tuple (u :: u2 :: us).toArray, hK, by rw [hrun]; simp, .tup _ (by simpa using h2) (fun j hj => ?_)⟩
    have := h3 j hj
    simpa [List.getD_eq_getElem?_getD] using this
  | [], _ :: _, h2, _, _, _ => simp at h2
  | [_], [], h2, _, _, _ => simp at h2
  | [_], _ :: _ :: _, h2, _, _, _ => simp at h2
  | _ :: _ :: _, [], h2, _, _, _ => simp at h2
  | _ :: _ :: _, [_], h2, _, _, _ => simp at h2
/-- What was written may be left to be read. -/
inductive View (lo : Nat) (H : AHeap) : AV → AV → Prop
  | nr {x : AV} (h : NR x) : View lo H x x
  | keep {b ver off len cap sz : Nat} {x : Bool} (hb : b < lo) : View lo H (.sl b ver off len cap sz x) (.sl b ver off len cap sz x)
  | sl {b ver off len cap sz : Nat} {x : Bool} {k : Blk} (hb : lo ≤ b) (hk : H[b]? = some k) (hl : k.live = true) (hv : k.ver = ver) (hc : len ≤ cap) (hf : off + len * sz ≤ k.cells.length) (hn : ∀ c ∈ k.cells, NR c) :
      View lo H (.sl b ver off len cap sz x) (.vsl len ((k.cells.drop off).take (len * sz)) none)
  | nil : View lo H (.v (.slice none 0 0)) (.vsl 0 [] none)
  | agg {xs ys : List AV} (hl : xs.length = ys.length) (h : ∀ j, j < xs.length → View lo H (xs.getD j .any) (ys.getD j .any)) : View lo H (.agg xs) (.agg ys)
  | tup {xs ys : List AV} (hl : xs.length = ys.length) (h : ∀ j, j < xs.length → View lo H (xs.getD j .any) (ys.getD j .any)) : View lo H (.tup xs) (.tup ys)
def ImgFrom (σ : Sig) (H : AHeap) (lo B : Nat) : Prop := ∃ b k l, lo ≤ b ∧ H[b]? = some k ∧ k.live = true ∧ σ.ρ b k.ver = some l ∧ l.B = B
theorem View.ok (r : Rel G σ H w) {lo : Nat} {x y : AV} (h : View lo H x y) : ∀ u, AR σ w x u → AR ⟨(rs σ lo).ρ, fun B => σ.ro B ∨ ImgFrom σ H lo B⟩ w y u := by
  have hm : ∀ x u, AR ⟨fun _ _ => none, σ.ro⟩ w x u → AR ⟨(rs σ lo).ρ, fun B => σ.ro B ∨ ImgFrom σ H lo B⟩ w x u := fun x u h =>
    AR.mono (σ := ⟨fun _ _ => none, σ.ro⟩) (σ' := ⟨(rs σ lo).ρ, fun B => σ.ro B ∨ ImgFrom σ H lo B⟩) (fun _ _ _ h => by cases h) (fun _ h => Or.inl h) (fun _ _ => rfl) h
  induction h with
  | nr h => exact fun u hu => hm _ _ (h σ w u hu)
  | @keep b ver off len cap sz xx hb =>
    intro u hu
    cases hu with
    | sl hρ h1 h2 h3 => exact .sl (rs_of hb hρ) h1 h2 h3
    | sl0 A => exact .sl0 A
  | @sl b ver off len cap sz xx k hb hk hl hv hc hf hn =>
    intro u hu
    subst hv
    cases hu with
    | @sl _ _ _ _ _ cap' _ _ l hρ h1 h2 h3 =>
      have hmem := r.mem hk hl hρ
      have hlt : ∀ j, j < ((k.cells.drop off).take (len * sz)).length → j < len * sz ∧ off + j < k.cells.length := fun j hj => by
        rw [List.length_take, List.length_drop] at hj
        omega
      refine AR.vsl (σ := ⟨(rs σ lo).ρ, fun B => σ.ro B ∨ ImgFrom σ H lo B⟩) l.B (l.base + off) cap' (fun j => (w.cell? ⟨l.B, l.base + off + j, none⟩).getD undef) (Or.inr ⟨b, k, l, hb, hk, hl, hρ, rfl⟩) (fun j hj => ?_) (fun j hj => ?_) (Nat.le_trans hc h1) (fun c hc => by cases hc)
      · obtain ⟨a1, a2⟩ := hlt j hj
        obtain ⟨v, e1, e2⟩ := hmem _ a2
        rw [← Nat.add_assoc] at e1
        rw [e1]
        rfl
      · obtain ⟨a1, a2⟩ := hlt j hj
        obtain ⟨v, e1, e2⟩ := hmem _ a2
        rw [← Nat.add_assoc] at e1
        rw [List.getD_eq_getElem?_getD, List.getElem?_take, if_pos a1, List.getElem?_drop, ← List.getD_eq_getElem?_getD]
        show AR _ w _ ((w.cell? ⟨l.B, l.base + off + j, none⟩).getD undef)
        rw [e1]
        exact hm _ _ (hn _ (by simp [List.getD_eq_getElem?_getD, a2]) σ w v e2)
    | sl0 A =>
      rw [Nat.zero_mul, List.take_zero]
      exact .vsl0 _ _ (fun c hc => by cases hc)
  | nil =>
    intro u hu
    cases hu
    exact .vsl0 _ _ (fun c hc => by cases hc)
  | agg hl h ih =>
    intro u hu
    cases hu with
    | agg us h1 h2 => exact .agg us (h1.trans hl) (fun j hj => ih j (by omega) _ (h2 j (by omega)))
  | tup hl h ih =>
    intro u hu
    cases hu with
    | tup us h1 h2 => exact .tup us (h1.trans hl) (fun j hj => ih j (by omega) _ (h2 j (by omega)))
/-- All that is known of variables has no address of a block that may be written. -/
def GN (G : Glob) : Prop := ∀ g, NR (G g)
theorem NR.to {x : AV} (hx : NR x) {σ σ' : Sig} {w : World} {u : Value} (hro : ∀ B, σ.ro B → σ'.ro B) (h : AR σ w x u) : AR σ' w x u :=
  AR.mono (σ := ⟨fun _ _ => none, σ.ro⟩) (σ' := σ') (fun _ _ _ h => by cases h) hro (fun _ _ => rfl) (hx σ w u h)
/-- What a body came to, cut down to the blocks that were there and what is returned. -/
theorem Res.cut (hG : GN G) {σ0 : Sig} {H0 : AHeap} {w0 : World} (r0 : Rel G σ0 H0 w0) (r : Rel G σ H w) (x : Ext σ0 H0 w0 σ H w) {lo : Nat} (hlo : H0.length ≤ lo) (hlo2 : lo ≤ H.length) {rv r' : AV} {u : Value} (hv : View lo H rv r') (hu : AR σ w rv u)
    (hn : ∀ b k, b < lo → H[b]? = some k → ∀ c ∈ k.cells, NR c) : Res G (H0.length == 0) σ0 H0 w0 r' (H.take lo) u w := by
  have hro : ∀ B, σ.ro B → (fun B => σ.ro B ∨ ImgFrom σ H lo B) B := fun B h => Or.inl h
  have hget : ∀ (b : Nat) (k : Blk), (H.take lo)[b]? = some k → b < lo ∧ H[b]? = some k := fun b k h => by
    rw [List.getElem?_take] at h
    split at h
    · exact ⟨by assumption, h⟩
    · cases h
  have himg : ∀ B, ImgFrom σ H lo B → w0.heap.size ≤ B ∨ Img σ0 H0 B := fun B ⟨b, k, l, h1, h2, h3, h4, h5⟩ => x.img ⟨b, k, l, h2, h3, h4, h5⟩
  refine ⟨⟨(rs σ lo).ρ, fun B => σ.ro B ∨ ImgFrom σ H lo B⟩, ?_, ⟨?_, ?_, ?_, ?_, ?_, ?_, fun b ver l h => r.base0 b ver l (rs_some h).2⟩, ⟨x.os, x.tape, x.output, x.size, ?_, fun B h => .inl (x.ro B h), x.frame, ?_, ?_, ?_, ?_⟩, fun h0 => ?_⟩
  · exact hv.ok r u hu
  · intro b k l h1 h2 h3
    obtain ⟨hb, h1⟩ := hget b k h1
    obtain ⟨C, fr, c1, c2, c3, c4, c5⟩ := r.blk b k l h1 h2 (rs_some h3).2
    refine ⟨C, fr, c1, c2, c3, c4, fun j hj => ?_⟩
    obtain ⟨v, e1, e2⟩ := c5 j hj
    exact ⟨v, e1, (hn b k hb h1 _ (by simp [List.getD_eq_getElem?_getD, hj])).to hro e2⟩
  · intro b1 b2 k1 k2 l1 l2 h1 h2 h3 g1 g2 g3
    exact r.inj b1 b2 k1 k2 l1 l2 (hget _ _ h1).2 h2 (rs_some h3).2 (hget _ _ g1).2 g2 (rs_some g3).2
  · intro b k l h1 h2 h3 h4
    obtain ⟨hb, h1⟩ := hget b k h1
    rcases h4 with h4 | ⟨b2, k2, l2, e1, e2, e3, e4, e5⟩
    · exact r.apart b k l h1 h2 (rs_some h3).2 h4
    · have := r.inj b2 b k2 k l2 l e2 e3 e4 h1 h2 (rs_some h3).2 e5
      omega
  · intro B hB
    rcases hB with hB | ⟨b2, k2, l2, e1, e2, e3, e4, e5⟩
    · exact r.roLt B hB
    · rw [← e5]
      exact r.lt e2 e3 e4
  · intro b ver l h
    obtain ⟨hb, h⟩ := rs_some h
    obtain ⟨k, h1, h2⟩ := r.fresh b ver l h
    exact ⟨k, by rw [List.getElem?_take, if_pos hb]; exact h1, h2⟩
  · intro g
    exact (hG g).to hro (r.glob g)
  · intro b ver l h
    obtain ⟨k, hk, _⟩ := r0.fresh b ver l h
    exact rs_of (Nat.lt_of_lt_of_le (List.getElem?_eq_some_iff.1 hk).1 hlo) (x.ρ b ver l h)
  · intro b ver l h
    exact x.new b ver l (rs_some h).2
  · intro b k' l h1 h2 h3
    exact x.stay b k' l (hget b k' h1).2 h2 h3
  · intro B hB
    rcases hB with hB | hB
    · exact x.roNew B hB
    · exact .inr (himg B hB)
  · rw [List.length_take]
    omega
  · have hnil : H0 = [] := List.eq_nil_of_length_eq_zero (by simpa using h0)
    subst hnil
    refine ⟨fun B hB => .same (x.frame B hB fun ⟨b, k, l, h1, _⟩ => by simp at h1), fun b ver l h => .inr (Nat.zero_le _)⟩
/-- A call, out of its body. -/
theorem ACall.of (hG : GN G) {imp : FuncId → Bool} (hmix : P.follows .mixedOrders = true) {n : FuncId} {fn : Func} {c : Code} (hf : P.funcs[n]? = some fn) (hname : (fn.name == "runtime.NumGoroutine") = false) (hb : fn.body = some c) {args : List AV} (hargs : args.length ≤ fn.ntmps) {H0 : AHeap} (lo : Nat) (hlo : H0.length ≤ lo) {r0 : AV} {H0' : AHeap}
    (h : avc P G imp c (args ++ List.replicate (fn.ntmps - args.length) (.v undef)) H0 fun e t H => (e = .normal ∨ e = .ret) ∧ aret P t H fn.results.toList fun r => View lo H r r0 ∧ lo ≤ H.length ∧ (∀ b k, b < lo → H[b]? = some k → ∀ c ∈ k.cells, NR c) ∧ H.take lo = H0') :
    ACall P G (H0.length == 0) n args H0 r0 H0' := by
  refine ⟨⟨fn, hf, hname, by rw [hb]; rfl⟩, fun σ w us hu ha rel => calls_of_wp hf hb ?_⟩
  have s : Sim G σ (args ++ List.replicate (fn.ntmps - args.length) (.v undef)) H0 { tmps := us ++ Array.replicate (fn.ntmps - us.size) undef, defers := [] } w := by
    refine ⟨rfl, by simp [hu], fun j hj => ?_, rel⟩
    simp only [List.length_append, List.length_replicate] at hj
    by_cases hja : j < args.length
    · have := ha j hja
      simpa [List.getD_eq_getElem?_getD, List.getElem?_append, Array.getElem?_append, hja, hu] using this
    · have e1 : (args ++ List.replicate (fn.ntmps - args.length) (AV.v undef)).getD j .any = .v undef := by
        rw [List.getD_eq_getElem?_getD, List.getElem?_append_right (by omega), List.getElem?_replicate, if_pos (by omega)]
        rfl
      have e2 : (us ++ Array.replicate (fn.ntmps - us.size) undef).getD j undef = undef := by
        rw [Array.getD_eq_getD_getElem?, Array.getElem?_append, if_neg (by omega), Array.getElem?_replicate, if_pos (by omega)]
        rfl
      rw [e1, e2]
      exact .v _
  refine Code.wp_mono (fun e a w' hq => ?_) (avc_ok hmix c _ H0 _ h σ H0 w σ _ w s (Ext.refl _ _ _))
  obtain ⟨t, H, σ', ⟨he, hr⟩, s', x⟩ := hq
  obtain ⟨r, u, ⟨hv, hl2, hn, rfl⟩, hrun, hru⟩ := aret_ok s' hr
  have hres := Res.cut hG rel s'.rel x hlo hl2 hv hru hn
  rcases he with rfl | rfl <;> exact ⟨s'.defers, u, hrun, u, rfl, hres⟩
end Go.Abs
namespace Go.Abs
set_option linter.unusedVariables false
set_option linter.unusedSimpArgs false
variable {P : Program} {G : Glob} {σ : Sig} {H : AHeap} {w : World}
theorem NR.into {x : AV} (hx : NR x) {σ σ' : Sig} {w : World} {u : Value} (h : AR σ w x u) (hro : ∀ B, σ.ro B → σ'.ro B) : AR σ' w x u := hx.to hro h
/-- A call that reads its arguments alone. -/
def PCall (P : Program) (G : Glob) (n : FuncId) (args : List AV) (r : AV) : Prop := ∀ H, ACall P G true n args H r H
/-- A call of a method that reads and writes one block. -/
def MCall (P : Program) (G : Glob) (n : FuncId) (args : List AV) (k : Blk) (r : AV) (k' : Blk) : Prop := ∀ (H : AHeap) (b : Nat), H[b]? = some k → ACall P G false n (.ptr b k.ver 0 :: args) H r (H.set b k')
/-- A call that returns a slice of its own. -/
def NCall (P : Program) (G : Glob) (n : FuncId) (args : List AV) (e : TypeId) (len cap sz : Nat) (x : Bool) (cs : List AV) : Prop := ∀ H, ACall P G true n args H (.sl H.length 0 0 len cap sz x) (H ++ [⟨cs, 0, true, e⟩])
theorem ACall.weakQ {q : Bool} {n : FuncId} {args : List AV} {r : AV} {H' : AHeap} (h : ACall P G q n args H r H') : ACall P G false n args H r H' :=
  ⟨h.1, fun σ w us h1 h2 h3 => (h.2 σ w us h1 h2 h3).mono fun e w' ⟨u, h4, h5⟩ => ⟨u, h4, Go.Abs.weakQ h5 fun h => by cases h⟩⟩
theorem Rel.none (hG : GN G) (r : Rel G σ H w) : Rel G ⟨fun _ _ => none, σ.ro⟩ [] w :=
  ⟨fun b k l h => (by simp at h), fun b1 b2 k1 k2 l1 l2 h => (by simp at h), fun b k l h => (by simp at h), r.roLt, fun b ver l h => (by cases h), fun g => (hG g).into (r.glob g) (fun _ h => h), fun b ver l h => (by cases h)⟩
theorem args_nr {args : List AV} {us : Array Value} (hn : ∀ a ∈ args, NR a) (h : ∀ j, j < args.length → AR σ w (args.getD j .any) (us.getD j undef)) : ∀ j, j < args.length → AR ⟨fun _ _ => none, σ.ro⟩ w (args.getD j .any) (us.getD j undef) :=
  fun j hj => hn _ (by simp [List.getD_eq_getElem?_getD, hj]) σ w _ (h j hj)
theorem noImg {σ : Sig} {B : Nat} : ¬ Img σ [] B := fun ⟨b, k, l, h, _⟩ => by simp at h
theorem PCall.of (hG : GN G) {n : FuncId} {args : List AV} {r : AV} (hargs : ∀ a ∈ args, NR a) (hr : NR r) (h : ACall P G true n args [] r []) : PCall P G n args r := by
  refine fun H => ⟨h.1, fun σ w us h1 h2 rel => ?_⟩
  refine (h.2 ⟨fun _ _ => none, σ.ro⟩ w us h1 (args_nr hargs h2) (rel.none hG)).mono fun e w' ⟨u, he, σ1, a1, a2, a3, a4⟩ => ⟨u, he, ?_⟩
  have hheap : ∀ B, B < w.heap.size → w'.heap[B]? = w.heap[B]? := fun B hB => a3.frame B hB noImg
  have hro : ∀ B, σ.ro B → σ1.ro B := a3.ro
  have hm : ∀ x v, AR σ w x v → AR ⟨σ.ρ, σ1.ro⟩ w' x v := fun x v h => AR.mono (σ := σ) (σ' := ⟨σ.ρ, σ1.ro⟩) (fun _ _ _ h => h) hro (fun B hB => hheap B (rel.roLt B hB)) h
  have hnew : ∀ B, σ1.ro B → σ.ro B ∨ w.heap.size ≤ B := fun B hB => by
    rcases a3.roNew B hB with h | h | h
    · exact .inl h
    · exact .inr h
    · exact absurd h noImg
  refine ⟨⟨σ.ρ, σ1.ro⟩, hr.into a1 (fun _ h => h), ⟨fun b k l g1 g2 g3 => ?_, rel.inj, fun b k l g1 g2 g3 g4 => ?_, a2.roLt, rel.fresh, fun g => hm _ _ (rel.glob g), rel.base0⟩,
    ⟨a3.os, a3.tape, a3.output, a3.size, fun _ _ _ h => h, hro, fun B hB _ => hheap B hB, fun _ _ _ h => .inl h, fun b k' l g1 g2 g3 => ⟨k', g1, g2, rfl⟩, fun B hB => (hnew B hB).imp id .inl, Nat.le_refl _⟩, fun _ => ⟨fun B hB => .same (hheap B hB), fun _ _ _ h => .inl h⟩⟩
  · obtain ⟨C, fr, c1, c2, c3, c4, c5⟩ := rel.blk b k l g1 g2 g3
    refine ⟨C, fr, by rw [hheap _ (Array.getElem?_eq_some_iff.1 c1).1]; exact c1, c2, c3, c4, fun j hj => ?_⟩
    obtain ⟨v, e1, e2⟩ := c5 j hj
    exact ⟨v, e1, hm _ _ e2⟩
  · rcases hnew _ g4 with h | h
    · exact rel.apart b k l g1 g2 g3 h
    · have := rel.lt g1 g2 g3
      omega
theorem NCall.of (hG : GN G) {n : FuncId} {args : List AV} {e : TypeId} {len cap sz v : Nat} {x : Bool} {cs : List AV} (hargs : ∀ a ∈ args, NR a) (hcs : ∀ c ∈ cs, NR c) (h : ACall P G true n args [] (.sl 0 v 0 len cap sz x) [⟨cs, v, true, e⟩]) : NCall P G n args e len cap sz x cs := by
  refine fun H => ⟨h.1, fun σ w us h1 h2 rel => ?_⟩
  refine (h.2 ⟨fun _ _ => none, σ.ro⟩ w us h1 (args_nr hargs h2) (rel.none hG)).mono fun e' w' ⟨u, he, σ1, a1, a2, a3, a4⟩ => ⟨u, he, ?_⟩
  have hheap : ∀ B, B < w.heap.size → w'.heap[B]? = w.heap[B]? := fun B hB => a3.frame B hB noImg
  have hro : ∀ B, σ.ro B → σ1.ro B := a3.ro
  let σ' : Sig := ⟨fun b ver => if b = H.length ∧ ver = 0 then σ1.ρ 0 v else σ.ρ b ver, σ1.ro⟩
  have hρ : ∀ b ver l, σ.ρ b ver = some l → σ'.ρ b ver = some l := fun b ver l hl => by
    simp only [σ']
    rw [if_neg]
    · exact hl
    · rintro ⟨rfl, rfl⟩
      rw [rel.free] at hl
      cases hl
  have hm : ∀ x v, AR σ w x v → AR σ' w' x v := fun x v h => AR.mono (σ := σ) (σ' := σ') hρ hro (fun B hB => hheap B (rel.roLt B hB)) h
  have hnew : ∀ B, σ1.ro B → σ.ro B ∨ w.heap.size ≤ B := fun B hB => by
    rcases a3.roNew B hB with h | h | h
    · exact .inl h
    · exact .inr h
    · exact absurd h noImg
  have hnB : ∀ l, σ1.ρ 0 v = some l → w.heap.size ≤ l.B := fun l hl => by
    rcases a3.new _ _ _ hl with h | h | h
    · cases h
    · exact h
    · exact absurd h noImg
  have hget : ∀ (b : Nat) (k : Blk), (H ++ [(⟨cs, 0, true, e⟩ : Blk)])[b]? = some k → (H[b]? = some k ∧ b < H.length) ∨ (b = H.length ∧ k = ⟨cs, 0, true, e⟩) := by
    intro b k h
    rw [List.getElem?_append] at h
    split at h
    · exact .inl ⟨h, by assumption⟩
    · right
      have : b = H.length := by
        rcases Nat.lt_or_ge (b - H.length) 1 with h1 | h1
        · omega
        · rw [List.getElem?_eq_none (by simpa using h1)] at h
          cases h
      subst this
      simp at h
      exact ⟨rfl, h.symm⟩
  have hold : ∀ b ver l, b < H.length → σ'.ρ b ver = some l → σ.ρ b ver = some l := fun b ver l hb h => by
    simp only [σ'] at h
    rwa [if_neg (by omega)] at h
  have hthe : ∀ l, σ'.ρ H.length 0 = some l → σ1.ρ 0 v = some l := fun l h => by
    simp only [σ'] at h
    simpa using h
  refine ⟨σ', ?_, ⟨?_, ?_, ?_, a2.roLt, ?_, fun g => hm _ _ (rel.glob g), fun b ver l h => ?b0⟩, ⟨a3.os, a3.tape, a3.output, a3.size, hρ, hro, fun B hB _ => hheap B hB, ?_, ?_, fun B hB => (hnew B hB).imp id .inl, by simp⟩, fun _ => ⟨fun B hB => .same (hheap B hB), ?_⟩⟩
  case b0 =>
    simp only [σ'] at h
    split at h
    · exact a2.base0 0 v l h
    · exact rel.base0 b ver l h
  · cases a1 with
    | sl hl g1 g2 g3 => exact .sl (σ := σ') (by simp only [σ']; simpa using hl) g1 g2 g3
    | sl0 A => exact .sl0 A
  · intro b k l g1 g2 g3
    rcases hget b k g1 with ⟨g4, g5⟩ | ⟨rfl, rfl⟩
    · obtain ⟨C, fr, c1, c2, c3, c4, c5⟩ := rel.blk b k l g4 g2 (hold _ _ _ g5 g3)
      refine ⟨C, fr, by rw [hheap _ (Array.getElem?_eq_some_iff.1 c1).1]; exact c1, c2, c3, c4, fun j hj => ?_⟩
      obtain ⟨y, e1, e2⟩ := c5 j hj
      exact ⟨y, e1, hm _ _ e2⟩
    · obtain ⟨C, fr, c1, c2, c3, c4, c5⟩ := a2.blk 0 _ l rfl rfl (hthe l g3)
      refine ⟨C, fr, c1, c2, c3, c4, fun j hj => ?_⟩
      obtain ⟨y, e1, e2⟩ := c5 j hj
      exact ⟨y, e1, (hcs _ (by simp [List.getD_eq_getElem?_getD, show j < cs.length from hj])).into e2 (fun _ h => h)⟩
  · intro b1 b2 k1 k2 l1 l2 g1 g2 g3 f1 f2 f3 ee
    rcases hget b1 k1 g1 with ⟨g4, g5⟩ | ⟨rfl, rfl⟩ <;> rcases hget b2 k2 f1 with ⟨f4, f5⟩ | ⟨rfl, rfl⟩
    · exact rel.inj b1 b2 k1 k2 l1 l2 g4 g2 (hold _ _ _ g5 g3) f4 f2 (hold _ _ _ f5 f3) ee
    · have := rel.lt g4 g2 (hold _ _ _ g5 g3)
      have := hnB l2 (hthe l2 f3)
      omega
    · have := rel.lt f4 f2 (hold _ _ _ f5 f3)
      have := hnB l1 (hthe l1 g3)
      omega
    · rfl
  · intro b k l g1 g2 g3 g4
    rcases hget b k g1 with ⟨f4, f5⟩ | ⟨rfl, rfl⟩
    · rcases hnew _ g4 with h | h
      · exact rel.apart b k l f4 g2 (hold _ _ _ f5 g3) h
      · have := rel.lt f4 g2 (hold _ _ _ f5 g3)
        omega
    · exact a2.apart 0 _ l rfl rfl (hthe l g3) g4
  · intro b ver l h
    simp only [σ'] at h
    split at h
    · rename_i ee
      obtain ⟨rfl, rfl⟩ := ee
      exact ⟨⟨cs, 0, true, e⟩, by simp, Nat.le_refl _⟩
    · obtain ⟨k, h1, h2⟩ := rel.fresh b ver l h
      exact ⟨k, by rw [List.getElem?_append_left (List.getElem?_eq_some_iff.1 h1).1]; exact h1, h2⟩
  · intro b ver l h
    simp only [σ'] at h
    split at h
    · exact .inr (.inl (hnB l h))
    · exact .inl h
  · intro b k' l g1 g2 g3
    rcases hget b k' g1 with ⟨f4, f5⟩ | ⟨rfl, rfl⟩
    · exact ⟨k', f4, g2, rfl⟩
    · rw [rel.free] at g3
      cases g3
  · intro b ver l h
    simp only [σ'] at h
    split at h
    · rename_i ee
      exact .inr (by omega)
    · exact .inl h
theorem MCall.of (hG : GN G) {n : FuncId} {args : List AV} {k k' : Blk} {r : AV} (hlv : k.live = true) (hlv' : k'.live = true) (hargs : ∀ a ∈ args, NR a) (hr : NR r) (hk : ∀ c ∈ k.cells, NR c) (hk' : ∀ c ∈ k'.cells, NR c) (h : ACall P G false n (.ptr 0 k.ver 0 :: args) [k] r [k']) :
    MCall P G n args k r k' := by
  refine fun H b hb => ⟨h.1, fun σ w us h1 h2 rel => ?_⟩
  have hblt : b < H.length := (List.getElem?_eq_some_iff.1 hb).1
  let σl : Sig := ⟨fun i ver => if i = 0 then σ.ρ b ver else none, σ.ro⟩
  have hl0 : ∀ ver, σl.ρ 0 ver = σ.ρ b ver := fun ver => by simp [σl]
  have relL : Rel G σl [k] w := by
    refine ⟨fun i k0 l g1 g2 g3 => ?_, fun b1 b2 k1 k2 l1 l2 g1 _ _ f1 _ _ _ => ?_, fun i k0 l g1 g2 g3 => ?_, rel.roLt, fun i ver l g => ?_, fun g => (hG g).into (rel.glob g) (fun _ h => h), fun i ver l g => ?b0⟩
    case b0 =>
      simp only [σl] at g
      split at g
      · exact rel.base0 b ver l g
      · cases g
    · have hi : i = 0 := by
        have := (List.getElem?_eq_some_iff.1 g1).1
        simpa using this
      subst hi
      simp at g1
      subst g1
      obtain ⟨C, fr, c1, c2, c3, c4, c5⟩ := rel.blk b k l hb g2 (by rw [← hl0]; exact g3)
      refine ⟨C, fr, c1, c2, c3, c4, fun j hj => ?_⟩
      obtain ⟨y, e1, e2⟩ := c5 j hj
      exact ⟨y, e1, (hk _ (by simp [List.getD_eq_getElem?_getD, hj])).into e2 (fun _ h => h)⟩
    · have := (List.getElem?_eq_some_iff.1 g1).1
      have := (List.getElem?_eq_some_iff.1 f1).1
      simp at *
      omega
    · have hi : i = 0 := by
        have := (List.getElem?_eq_some_iff.1 g1).1
        simpa using this
      subst hi
      simp at g1
      subst g1
      exact rel.apart b k l hb g2 (by rw [← hl0]; exact g3)
    · simp only [σl] at g
      split at g
      · rename_i e
        subst e
        obtain ⟨k0, e1, e2⟩ := rel.fresh b ver l g
        rw [hb] at e1
        cases e1
        exact ⟨k, rfl, e2⟩
      · cases g
  have argsL : ∀ j, j < (AV.ptr 0 k.ver 0 :: args).length → AR σl w ((AV.ptr 0 k.ver 0 :: args).getD j .any) (us.getD j undef) := by
    intro j hj
    cases j with
    | zero =>
      have := h2 0 (by simp)
      simp only [List.getD_cons_zero] at this ⊢
      generalize us.getD 0 undef = u0 at *
      cases this with
      | ptr hl => exact .ptr (σ := σl) (by rw [hl0]; exact hl)
    | succ j =>
      have := h2 (j + 1) (by simpa using hj)
      simp only [List.getD_cons_succ] at this ⊢
      have hj' : j < args.length := by simpa using hj
      exact (hargs _ (by simp [List.getD_eq_getElem?_getD, hj'])).into this (fun _ h => h)
  refine (h.2 σl w us (by simpa using h1) argsL relL).mono fun e w' ⟨u, he, σ1, a1, a2, a3, _⟩ => ⟨u, he, ?_⟩
  have himg : ∀ B, Img σl [k] B → ∃ l, σ.ρ b k.ver = some l ∧ l.B = B := by
    rintro B ⟨i, k0, l, g1, g2, g3, g4⟩
    have hi : i = 0 := by
      have := (List.getElem?_eq_some_iff.1 g1).1
      simpa using this
    subst hi
    simp at g1
    subst g1
    exact ⟨l, by rw [← hl0]; exact g3, g4⟩
  have himgH : ∀ B, Img σl [k] B → Img σ H B := fun B hB => by
    obtain ⟨l, g1, g2⟩ := himg B hB
    exact ⟨b, k, l, hb, hlv, g1, g2⟩
  have hro : ∀ B, σ.ro B → σ1.ro B := a3.ro
  have hroH : ∀ B, σ.ro B → w'.heap[B]? = w.heap[B]? := fun B hB => a3.frame B (rel.roLt B hB) fun hi => by
    obtain ⟨l, g1, g2⟩ := himg B hi
    exact rel.apart b k l hb hlv g1 (g2 ▸ hB)
  let σ' : Sig := ⟨fun b' ver => if b' = b then σ1.ρ 0 ver else σ.ρ b' ver, σ1.ro⟩
  have hρ : ∀ b' ver l, σ.ρ b' ver = some l → σ'.ρ b' ver = some l := fun b' ver l hl => by
    simp only [σ']
    by_cases e : b' = b
    · subst e
      rw [if_pos rfl]
      exact a3.ρ 0 ver l (by rw [hl0]; exact hl)
    · rw [if_neg e]
      exact hl
  have hm : ∀ x v, AR σ w x v → AR σ' w' x v := fun x v h => AR.mono (σ := σ) (σ' := σ') hρ hro hroH h
  have hget : ∀ (b' : Nat) (k0 : Blk), (H.set b k')[b']? = some k0 → (b' ≠ b ∧ H[b']? = some k0) ∨ (b' = b ∧ k0 = k') := by
    intro b' k0 h
    rw [List.getElem?_set] at h
    split at h
    · rename_i e
      subst e
      try rw [if_pos hblt] at h
      exact .inr ⟨rfl, (Option.some.inj h).symm⟩
    · rename_i e
      exact .inl ⟨fun e' => e e'.symm, h⟩
  have hthe : ∀ ver l, σ'.ρ b ver = some l → σ1.ρ 0 ver = some l := fun ver l h => by
    simp only [σ'] at h
    simpa using h
  have hoth : ∀ b' ver l, b' ≠ b → σ'.ρ b' ver = some l → σ.ρ b' ver = some l := fun b' ver l hne h => by
    simp only [σ'] at h
    rwa [if_neg hne] at h
  -- another block lies apart from the written one
  have hfar : ∀ b' k0 l l1, b' ≠ b → H[b']? = some k0 → k0.live = true → σ.ρ b' k0.ver = some l → σ1.ρ 0 k'.ver = some l1 → l.B ≠ l1.B := by
    intro b' k0 l l1 hne g1 g2 g3 g4 e
    have hlt := rel.lt g1 g2 g3
    rcases a3.new 0 k'.ver l1 g4 with h | h | h
    · obtain ⟨k2, f1, f2, f3⟩ := a3.stay 0 k' l1 rfl hlv' h
      simp at f1
      subst f1
      rw [← f3, hl0] at h
      exact hne (rel.inj b' b k0 k l l1 g1 g2 g3 hb hlv h e)
    · omega
    · obtain ⟨l2, f1, f2⟩ := himg _ h
      exact hne (rel.inj b' b k0 k l l2 g1 g2 g3 hb hlv f1 (e.trans f2.symm))
  refine ⟨σ', hr.into a1 (fun _ h => h), ⟨?_, ?_, ?_, a2.roLt, ?_, fun g => hm _ _ (rel.glob g), fun b' ver l g => ?b0⟩, ⟨a3.os, a3.tape, a3.output, a3.size, hρ, hro, fun B hB hn => a3.frame B hB (fun hi => hn (himgH B hi)), ?_, ?_, ?_, by simp⟩, fun h => by cases h⟩
  case b0 =>
    by_cases e : b' = b
    · subst e
      simp only [σ', if_true] at g
      exact a2.base0 0 ver l g
    · exact rel.base0 b' ver l (hoth _ _ _ e g)
  · intro b' k0 l g1 g2 g3
    rcases hget b' k0 g1 with ⟨hne, g4⟩ | ⟨rfl, rfl⟩
    · have g5 := hoth _ _ _ hne g3
      obtain ⟨C, fr, c1, c2, c3, c4, c5⟩ := rel.blk b' k0 l g4 g2 g5
      have hkeep : w'.heap[l.B]? = w.heap[l.B]? := a3.frame _ (rel.lt g4 g2 g5) fun hi => by
        obtain ⟨l2, f1, f2⟩ := himg _ hi
        exact hne (rel.inj b' b k0 k l l2 g4 g2 g5 hb hlv f1 f2.symm)
      refine ⟨C, fr, by rw [hkeep]; exact c1, c2, c3, c4, fun j hj => ?_⟩
      obtain ⟨y, e1, e2⟩ := c5 j hj
      exact ⟨y, e1, hm _ _ e2⟩
    · obtain ⟨C, fr, c1, c2, c3, c4, c5⟩ := a2.blk 0 k0 l rfl g2 (hthe _ _ g3)
      refine ⟨C, fr, c1, c2, c3, c4, fun j hj => ?_⟩
      obtain ⟨y, e1, e2⟩ := c5 j hj
      exact ⟨y, e1, (hk' _ (by simp [List.getD_eq_getElem?_getD, hj])).into e2 (fun _ h => h)⟩
  · intro b1 b2 k1 k2 l1 l2 g1 g2 g3 f1 f2 f3 ee
    rcases hget b1 k1 g1 with ⟨n1, g4⟩ | ⟨rfl, rfl⟩ <;> rcases hget b2 k2 f1 with ⟨n2, f4⟩ | ⟨rfl, rfl⟩
    · exact rel.inj b1 b2 k1 k2 l1 l2 g4 g2 (hoth _ _ _ n1 g3) f4 f2 (hoth _ _ _ n2 f3) ee
    · exact absurd ee (hfar b1 k1 l1 l2 n1 g4 g2 (hoth _ _ _ n1 g3) (hthe _ _ f3))
    · exact absurd ee.symm (hfar b2 k2 l2 l1 n2 f4 f2 (hoth _ _ _ n2 f3) (hthe _ _ g3))
    · rfl
  · intro b' k0 l g1 g2 g3 g4
    rcases hget b' k0 g1 with ⟨hne, f4⟩ | ⟨rfl, rfl⟩
    · have g5 := hoth _ _ _ hne g3
      rcases a3.roNew _ g4 with h | h | h
      · exact rel.apart b' k0 l f4 g2 g5 h
      · have := rel.lt f4 g2 g5
        omega
      · obtain ⟨l2, e1, e2⟩ := himg _ h
        exact hne (rel.inj b' b k0 k l l2 f4 g2 g5 hb hlv e1 e2.symm)
    · exact a2.apart 0 k0 l rfl g2 (hthe _ _ g3) g4
  · intro b' ver l h
    by_cases e : b' = b
    · subst e
      obtain ⟨k0, e1, e2⟩ := a2.fresh 0 ver l (hthe _ _ h)
      simp at e1
      subst e1
      exact ⟨_, List.getElem?_set_self hblt, e2⟩
    · obtain ⟨k0, e1, e2⟩ := rel.fresh b' ver l (hoth _ _ _ e h)
      exact ⟨k0, by rw [List.getElem?_set_ne (fun e' => e e'.symm)]; exact e1, e2⟩
  · intro b' ver l h
    by_cases e : b' = b
    · subst e
      rcases a3.new 0 ver l (hthe _ _ h) with h1 | h1 | h1
      · exact .inl (by rw [← hl0]; exact h1)
      · exact .inr (.inl h1)
      · exact .inr (.inr (himgH _ h1))
    · exact .inl (hoth _ _ _ e h)
  · intro b' k0 l g1 g2 g3
    rcases hget b' k0 g1 with ⟨hne, f4⟩ | ⟨rfl, rfl⟩
    · exact ⟨k0, f4, g2, rfl⟩
    · obtain ⟨k2, f1, f2, f3⟩ := a3.stay 0 k0 l rfl g2 (by rw [hl0]; exact g3)
      simp at f1
      subst f1
      exact ⟨_, hb, f2, f3⟩
  · intro B hB
    rcases a3.roNew B hB with h | h | h
    · exact .inl h
    · exact .inr (.inl h)
    · exact .inr (.inr (himgH B h))
end Go.Abs
namespace Go.Abs
set_option linter.unusedVariables false
set_option linter.unusedSimpArgs false
variable {P : Program} {G : Glob} {σ : Sig} {H : AHeap} {w : World}
/-- A value, when a block is written no more. -/
def fzS (b : Nat) (k : Blk) : AV → AV
  | .ptr b' ver off => if b' = b ∧ ver = k.ver then .vptr k.cells off else .ptr b' ver off
  | .sl b' ver off len cap sz x => if b' = b ∧ ver = k.ver ∧ len ≤ cap ∧ off + len * sz ≤ k.cells.length then .vsl len ((k.cells.drop off).take (len * sz)) (if x then some cap else none) else .sl b' ver off len cap sz x
  | x => x
/-- The same, of what lies in a row too. -/
def fzV (b : Nat) (k : Blk) : AV → AV
  | .vsl len cs cx => .vsl len (cs.map (fzS b k)) cx
  | .agg cs => .agg (cs.map (fzS b k))
  | x => fzS b k x
def afz : List Nat → List AV → AHeap → (List AV → AHeap → Prop) → Prop
  | [], t, H, K => K t H
  | b :: bs, t, H, K => match H[b]? with
    | some k => k.live = true ∧ afz bs (t.map (fzV b k)) (H.set b { k with live := false }) K
    | none => False
theorem fzS_ok {σ' : Sig} {b : Nat} {k : Blk} {l : Loc} (hl : σ.ρ b k.ver = some l) (hro : σ'.ro l.B) (hm : ∀ x u, AR σ w x u → AR σ' w x u)
    (hc : ∀ o n, o + n ≤ k.cells.length → ∃ u : Nat → Value, (∀ j, j < n → w.cell? ⟨l.B, l.base + o + j, none⟩ = some (u j)) ∧ ∀ j, j < n → AR σ' w (k.cells.getD (o + j) .any) (u j)) (x : AV) (u : Value) (h : AR σ w x u) : AR σ' w (fzS b k x) u := by
  unfold fzS
  split
  · rename_i b' ver off
    by_cases e : b' = b ∧ ver = k.ver
    · rw [if_pos e]
      obtain ⟨rfl, rfl⟩ := e
      cases h with
      | ptr h =>
        rw [hl] at h
        cases h
        obtain ⟨v, c1, c2⟩ := hc 0 k.cells.length (by omega)
        exact .vptr l.B l.base v hro (fun j hj => by simpa using c1 j hj) (fun j hj => by simpa using c2 j hj)
    · rw [if_neg e]
      exact hm _ _ h
  · rename_i b' ver off len cap sz x
    by_cases e : b' = b ∧ ver = k.ver ∧ len ≤ cap ∧ off + len * sz ≤ k.cells.length
    · rw [if_pos e]
      obtain ⟨rfl, rfl, e1, e2⟩ := e
      cases h with
      | @sl _ _ _ _ _ cap' _ _ l' h h1 h2 h3 =>
        rw [hl] at h
        cases h
        obtain ⟨v, c1, c2⟩ := hc off (len * sz) e2
        have hlen : ((k.cells.drop off).take (len * sz)).length = len * sz := by rw [List.length_take, List.length_drop]; omega
        refine .vsl l.B (l.base + off) cap' v hro (fun j hj => c1 j (by omega)) (fun j hj => ?_) (Nat.le_trans e1 h1) (fun c hc => ?_)
        · rw [List.getD_eq_getElem?_getD, List.getElem?_take, if_pos (by omega), List.getElem?_drop, ← List.getD_eq_getElem?_getD]
          exact c2 j (by omega)
        · split at hc
          · rename_i hx
            cases hc
            exact h2 hx
          · cases hc
      | sl0 A =>
        rw [Nat.zero_mul, List.take_zero]
        exact .vsl0 _ _ (fun c hc => by split at hc <;> cases hc; rfl)
    · rw [if_neg e]
      exact hm _ _ h
  · exact hm _ _ h
/-- A block without a place: none points into it but with nothing. -/
theorem fzS_none {b : Nat} {k : Blk} (hl : σ.ρ b k.ver = none) (x : AV) (u : Value) (h : AR σ w x u) : AR σ w (fzS b k x) u := by
  unfold fzS
  split
  · rename_i b' ver off
    by_cases e : b' = b ∧ ver = k.ver
    · obtain ⟨rfl, rfl⟩ := e
      cases h with
      | ptr h =>
        rw [hl] at h
        cases h
    · rw [if_neg e]
      exact h
  · rename_i b' ver off len cap sz x
    by_cases e : b' = b ∧ ver = k.ver ∧ len ≤ cap ∧ off + len * sz ≤ k.cells.length
    · rw [if_pos e]
      obtain ⟨rfl, rfl, e1, e2⟩ := e
      cases h with
      | sl h h1 h2 h3 =>
        rw [hl] at h
        cases h
      | sl0 A =>
        rw [Nat.zero_mul, List.take_zero]
        exact .vsl0 _ _ (fun c hc => by split at hc <;> cases hc; rfl)
    · rw [if_neg e]
      exact h
  · exact h
theorem fz_map {σ' : Sig} {f : AV → AV} (hf : ∀ x u, AR σ w x u → AR σ' w (f x) u) {cs : List AV} {u : Nat → Value} (h : ∀ j, j < cs.length → AR σ w (cs.getD j .any) (u j)) : ∀ j, j < (cs.map f).length → AR σ' w ((cs.map f).getD j .any) (u j) := by
  intro j hj
  rw [List.length_map] at hj
  have := hf _ _ (h j hj)
  simpa [List.getD_eq_getElem?_getD, hj] using this
/-- By its parts. -/
theorem fzV_of {σ' : Sig} {b : Nat} {k : Blk} (hro : ∀ B, σ.ro B → σ'.ro B) (hf : ∀ x u, AR σ w x u → AR σ' w (fzS b k x) u) (x : AV) (u : Value) (h : AR σ w x u) : AR σ' w (fzV b k x) u := by
  unfold fzV
  split
  · rename_i len cs cx
    cases h with
    | vsl B o cap' u hr hm ha hl hx => exact .vsl B o cap' u (hro _ hr) (fun j hj => hm j (by simpa using hj)) (fz_map hf ha) hl hx
    | vsl0 A cap' hx => exact .vsl0 A cap' hx
  · rename_i cs
    cases h with
    | agg us hl ha => exact .agg us (by simpa using hl) (fz_map hf ha)
  · exact hf _ _ h
theorem fzV_ok {σ' : Sig} {b : Nat} {k : Blk} {l : Loc} (hl : σ.ρ b k.ver = some l) (hro : σ'.ro l.B) (hro2 : ∀ B, σ.ro B → σ'.ro B) (hm : ∀ x u, AR σ w x u → AR σ' w x u)
    (hc : ∀ o n, o + n ≤ k.cells.length → ∃ u : Nat → Value, (∀ j, j < n → w.cell? ⟨l.B, l.base + o + j, none⟩ = some (u j)) ∧ ∀ j, j < n → AR σ' w (k.cells.getD (o + j) .any) (u j)) (x : AV) (u : Value) (h : AR σ w x u) : AR σ' w (fzV b k x) u :=
  fzV_of hro2 (fzS_ok hl hro hm hc) x u h
theorem fzV_none {b : Nat} {k : Blk} (hl : σ.ρ b k.ver = none) (x : AV) (u : Value) (h : AR σ w x u) : AR σ w (fzV b k x) u := fzV_of (fun _ h => h) (fzS_none hl) x u h
theorem fz_get (b : Nat) (k : Blk) (t : List AV) {j : Nat} (hj : j < t.length) : (t.map (fzV b k)).getD j .any = fzV b k (t.getD j .any) := by
  simp [List.getD_eq_getElem?_getD, hj]
theorem afz_ok : ∀ {bs : List Nat} {t : List AV} {H : AHeap} {K : List AV → AHeap → Prop}, afz bs t H K → ∀ {σ : Sig} {a : Act} {w : World}, Sim G σ t H a w → ∃ t' H' σ', K t' H' ∧ Sim G σ' t' H' a w ∧ Ext σ H w σ' H' w
  | [], t, H, K, h, σ, a, w, s => ⟨t, H, σ, h, s, Ext.refl _ _ _⟩
  | b :: bs, t, H, K, h, σ, a, w, s => by
    unfold afz at h
    cases hk : H[b]? with
    | none => simp [hk] at h
    | some k =>
      simp only [hk] at h
      obtain ⟨hlv, h⟩ := h
      cases hl : σ.ρ b k.ver with
      | none =>
        obtain ⟨r', x'⟩ := s.rel.kill hk
        obtain ⟨t', H', σ', c1, c2, c3⟩ := afz_ok h (σ := σ) (a := a) (w := w) ⟨s.defers, by simpa using s.size, fun j hj => by rw [fz_get b k t (by simpa using hj)]; exact fzV_none hl _ _ (s.tmps j (by simpa using hj)), r'⟩
        exact ⟨t', H', σ', c1, c2, x'.trans c3⟩
      | some l =>
        obtain ⟨r', x', hm, hc⟩ := s.rel.freeze hk hlv hl
        obtain ⟨t', H', σ', c1, c2, c3⟩ := afz_ok h (σ := ⟨σ.ρ, fun B => σ.ro B ∨ B = l.B⟩) (a := a) (w := w) ⟨s.defers, by simpa using s.size, fun j hj => by rw [fz_get b k t (by simpa using hj)]; exact fzV_ok hl (Or.inr rfl) (fun B h => Or.inl h) hm hc _ _ (s.tmps j (by simpa using hj)), r'⟩
        exact ⟨t', H', σ', c1, c2, x'.trans c3⟩
theorem afz_mono {K K' : List AV → AHeap → Prop} (h : ∀ t H, K t H → K' t H) : ∀ {bs : List Nat} {t : List AV} {H : AHeap}, afz bs t H K → afz bs t H K'
  | [], t, H, hk => h _ _ hk
  | b :: bs, t, H, hk => by
    unfold afz at hk ⊢
    cases hb : H[b]? with
    | none => simp [hb] at hk
    | some k =>
      simp only [hb] at hk ⊢
      exact ⟨hk.1, afz_mono h hk.2⟩
/-- A slice of nothing may be looked at as one that lies in a block of its own. -/
def agh : List (Nat × Nat × TypeId) → List AV → AHeap → (List AV → AHeap → Prop) → Prop
  | [], t, H, K => K t H
  | (i, sz, e) :: gs, t, H, K => (t.getD i .any = .v (.slice none 0 0) ∧ i < t.length) ∧ agh gs (t.set i (.sl H.length 0 0 0 0 sz false)) (H ++ [⟨[], 0, true, e⟩]) K
theorem agh_ok : ∀ {gs : List (Nat × Nat × TypeId)} {t : List AV} {H : AHeap} {K : List AV → AHeap → Prop}, agh gs t H K → ∀ {σ : Sig} {a : Act} {w : World}, Sim G σ t H a w → ∃ t' H', K t' H' ∧ Sim G σ t' H' a w ∧ Ext σ H w σ H' w
  | [], t, H, K, h, σ, a, w, s => ⟨t, H, h, s, Ext.refl _ _ _⟩
  | (i, sz, e) :: gs, t, H, K, h, σ, a, w, s => by
    obtain ⟨⟨h1, h2⟩, h⟩ := h
    obtain ⟨r', x'⟩ := s.rel.ghost ⟨[], 0, true, e⟩
    obtain ⟨t', H', c1, c2, c3⟩ := agh_ok h (σ := σ) (a := a) (w := w) ⟨s.defers, by simpa using s.size, fun j hj => by
      rw [List.length_set] at hj
      have hs := s.tmps j hj
      rw [List.getD_eq_getElem?_getD, List.getElem?_set]
      by_cases hij : i = j
      · subst hij
        rw [h1] at hs
        simp only [h2, if_true, Option.getD_some]
        generalize a.tmps.getD i undef = u at *
        cases hs
        exact .sl0 _
      · rw [if_neg hij, ← List.getD_eq_getElem?_getD]
        exact hs, r'⟩
    exact ⟨t', H', c1, c2, x'.trans c3⟩
/-- A value without a pointer. -/
def Flat (x : AV) : Prop := ∀ (σ σ' : Sig) (w w' : World) (u : Value), AR σ w x u → AR σ' w' x u
theorem Flat.v (x : Value) : Flat (.v x) := fun _ _ _ _ _ h => by cases h; exact .v _
theorem Flat.agg {cs : List AV} (h : ∀ c ∈ cs, Flat c) : Flat (.agg cs) := fun σ σ' w w' u hu => by
  cases hu with
  | agg us hl ha => exact .agg us hl (fun j hj => h _ (by simp [List.getD_eq_getElem?_getD, hj]) _ _ _ _ _ (ha j hj))
theorem Flat.tup {cs : List AV} (h : ∀ c ∈ cs, Flat c) : Flat (.tup cs) := fun σ σ' w w' u hu => by
  cases hu with
  | tup us hl ha => exact .tup us hl (fun j hj => h _ (by simp [List.getD_eq_getElem?_getD, hj]) _ _ _ _ _ (ha j hj))
/-- A call that only reads may read what may be written later, if it hands out no pointer. -/
theorem PCall.live {n : FuncId} {args : List AV} {r : AV} (bs : List Nat) (h : afz bs args H fun args' _ => PCall P G n args' r) (fl : Flat r) : ACall P G true n args H r H := by
  have hcall : Callable P n := by
    have key : ∀ {bs : List Nat} {t : List AV} {H : AHeap}, afz bs t H (fun args' _ => PCall P G n args' r) → Callable P n := by
      intro bs
      induction bs with
      | nil => exact fun h => (h []).1
      | cons b bs ih =>
        intro t H h
        unfold afz at h
        cases hk : H[b]? with
        | none => simp [hk] at h
        | some k =>
          simp only [hk] at h
          exact ih h.2
    exact key h
  refine ⟨hcall, fun σ w us hu ha rel => ?_⟩
  obtain ⟨t', H', σ', hp, s, x⟩ := afz_ok h (σ := σ) (a := { tmps := us, defers := [] }) (w := w) ⟨rfl, hu, ha, rel⟩
  refine ((hp H').2 σ' w us s.size s.tmps s.rel).mono fun e w' ⟨u, he, σ1, a1, a2, a3, a4⟩ => ⟨u, he, ?_⟩
  have hal := (a4 rfl).heap
  have hro : ∀ B, σ.ro B → w'.heap[B]? = w.heap[B]? := fun B hB => s.rel.roKept a3 B (x.ro B hB)
  have hm : ∀ x v, AR σ w x v → AR σ w' x v := fun x v h => AR.mono (σ := σ) (σ' := σ) (fun _ _ _ h => h) (fun _ h => h) hro h
  refine ⟨σ, fl _ _ _ _ _ a1, ⟨fun b k l g1 g2 g3 => ?_, rel.inj, rel.apart, fun B hB => Nat.lt_of_lt_of_le (rel.roLt B hB) a3.size, rel.fresh, fun g => hm _ _ (rel.glob g), rel.base0⟩,
    ⟨a3.os, a3.tape, a3.output, a3.size, fun _ _ _ h => h, fun _ h => h, fun B hB hn => a3.frame B hB fun hi => (x.img hi).elim (fun h => by omega) hn, fun _ _ _ h => .inl h, fun b k' l g1 g2 _ => ⟨k', g1, g2, rfl⟩, fun B h => .inl h, Nat.le_refl _⟩, fun _ => ⟨hal, fun _ _ _ h => .inl h⟩⟩
  obtain ⟨C, fr, c1, c2, c3, c4, c5⟩ := rel.blk b k l g1 g2 g3
  obtain ⟨fr', c1', c4'⟩ : ∃ fr', w'.heap[l.B]? = some (.cells C k.elem fr') ∧ (l.lim ≤ fr'.1 ∨ fr'.1 = fr'.2) := by
    have hal := hal _ (Array.getElem?_eq_some_iff.1 c1).1
    rw [c1] at hal
    generalize hw' : w'.heap[l.B]? = ob at hal
    cases hal with
    | same h => exact ⟨fr, h, c4⟩
    | marked fr fr' h => exact ⟨fr', rfl, by rw [← c2] at c4 ⊢; exact h c4⟩
  refine ⟨C, fr', c1', c2, c3, c4', fun j hj => ?_⟩
  obtain ⟨v, e1, e2⟩ := c5 j hj
  exact ⟨v, e1, hm _ _ e2⟩
end Go.Abs
namespace Go.Abs
set_option linter.unusedVariables false
set_option linter.unusedSimpArgs false
variable {P : Program} {G : Glob} {σ : Sig} {H : AHeap} {w : World}
/-- An operation of the tail. -/
def StepF (P : Program) (G : Glob) (ops : Array Oper) (o : Oper) (t t' : List AV) (H H' : AHeap) : Prop :=
  ∃ v, t' = tput t o.dst v ∧ ∃ wd : Bool, (∀ (σ : Sig) (w : World) (a : Act), (∀ g want d, o.guard = some (g, want) → (ops[g]?).bind (·.dst) = some d → AR σ w (t.getD d .any) (a.tmps.getD d undef) ∧ (d < a.tmps.size ∨ t.getD d .any = .any)) → Region.wanted o (yielded ops a.tmps) = wd) ∧
    if wd then OpOk P G false o (aenv G t) H v H' else v = .v undef ∧ H' = H
/-- A late operation: what it comes to does not depend on when. -/
def Free (P : Program) (G : Glob) (t : List AV) (o : Oper) : Prop :=
  ∃ v, NR v ∧ (∀ x, x ∈ o.op.operands → NR (aenv G t x)) ∧ OpOk P G true o (aenv G t) [] v [] ∧ ∀ d, o.dst = some d → t.getD d .any = v
/-- The same at one view of memory. -/
def FreeAt (P : Program) (G : Glob) (t : List AV) (o : Oper) (H : AHeap) : Prop :=
  ∃ v, OpOk P G true o (aenv G t) H v H ∧ ∀ d, o.dst = some d → t.getD d .any = v
/-- What a quiet operation left, for all that stood there. -/
theorem liftQ {σm σ1 : Sig} {H1 : AHeap} {w' : World} (rm : Rel G σm H1 w) (a2 : Rel G σ1 H1 w') (a3 : Ext σm H1 w σ1 H1 w') (a4 : Quiet σm H1 w σ1 w') {σ : Sig} {H : AHeap}
    (hρ : ∀ b ver l, σm.ρ b ver = some l → σ.ρ b ver = some l) (hr : σ.ro = σm.ro) (hI : ∀ B, Img σm H1 B → Img σ H B) (rel : Rel G σ H w) :
    Rel G ⟨σ.ρ, σ1.ro⟩ H w' ∧ Ext σ H w ⟨σ.ρ, σ1.ro⟩ H w' ∧ (∀ x v, AR σ w x v → AR ⟨σ.ρ, σ1.ro⟩ w' x v) ∧ (∀ x v, AR σ1 w' x v → AR ⟨σ.ρ, σ1.ro⟩ w' x v) := by
  have hro : ∀ B, σ.ro B → σ1.ro B := fun B hB => a3.ro B (by rw [← hr]; exact hB)
  have hroH : ∀ B, σ.ro B → w'.heap[B]? = w.heap[B]? := fun B hB => rm.roKept a3 B (by rw [← hr]; exact hB)
  have hm : ∀ x v, AR σ w x v → AR ⟨σ.ρ, σ1.ro⟩ w' x v := fun x v h => AR.mono (σ := σ) (σ' := ⟨σ.ρ, σ1.ro⟩) (fun _ _ _ h => h) hro hroH h
  have hkey : ∀ b ver l, σ1.ρ b ver = some l → σ.ρ b ver = some l := fun b ver l h => by
    rcases a4.keys b ver l h with h' | h'
    · exact hρ _ _ _ h'
    · obtain ⟨k, hk, _⟩ := a2.fresh b ver l h
      have := (List.getElem?_eq_some_iff.1 hk).1
      omega
  have hnew : ∀ B, σ1.ro B → σ.ro B ∨ w.heap.size ≤ B := fun B hB => by
    rcases a3.roNew B hB with h | h | ⟨b, k, l, g1, g2, g3, g4⟩
    · exact .inl (by rw [hr]; exact h)
    · exact .inr h
    · exact absurd (g4 ▸ hB) (a2.apart b k l g1 g2 (a3.ρ _ _ _ g3))
  refine ⟨⟨fun b k l g1 g2 g3 => ?_, rel.inj, fun b k l g1 g2 g3 g4 => ?_, a2.roLt, rel.fresh, fun g => hm _ _ (rel.glob g), rel.base0⟩,
    ⟨a3.os, a3.tape, a3.output, a3.size, fun _ _ _ h => h, hro, fun B hB hn => a3.frame B hB fun h => hn (hI B h), fun _ _ _ h => .inl h, fun b k' l g1 g2 g3 => ⟨k', g1, g2, rfl⟩, fun B hB => (hnew B hB).imp id .inl, Nat.le_refl _⟩,
    hm, fun x v h => AR.mono (σ := σ1) (σ' := ⟨σ.ρ, σ1.ro⟩) (w := w') (w' := w') hkey (fun _ h => h) (fun _ _ => rfl) h⟩
  · obtain ⟨C, fr, c1, c2, c3, c4, c5⟩ := rel.blk b k l g1 g2 g3
    obtain ⟨fr', c1', c4'⟩ : ∃ fr', w'.heap[l.B]? = some (.cells C k.elem fr') ∧ (l.lim ≤ fr'.1 ∨ fr'.1 = fr'.2) := by
      have hal := a4.heap _ (Array.getElem?_eq_some_iff.1 c1).1
      rw [c1] at hal
      generalize hw' : w'.heap[l.B]? = ob at hal
      cases hal with
      | same h => exact ⟨fr, h, c4⟩
      | marked fr fr' h => exact ⟨fr', rfl, by rw [← c2] at c4 ⊢; exact h c4⟩
    refine ⟨C, fr', c1', c2, c3, c4', fun j hj => ?_⟩
    obtain ⟨v, e1, e2⟩ := c5 j hj
    exact ⟨v, e1, hm _ _ e2⟩
  · rcases hnew _ g4 with h | h
    · exact rel.apart b k l g1 g2 g3 h
    · have := rel.lt g1 g2 g3
      omega
section
variable {L : Nat → Bool} {ops : Array Oper} {m : Nat} {T : Nat → List AV} {Hh : Nat → AHeap} {V : Nat → AV} {σ0 : Sig} {w0 : World} {Q : Exit → Act → World → Prop}
theorem DInv.free (ord : Ord ops m L) (hst : ∀ i, i < m → ∀ o, ops[i]? = some o → StepAt P G ops o (T i) (T (i + 1)) (Hh i) (Hh (i + 1)) (V i)) {listed : Array Bool} {a : Act} (d : DInv G L ops m T Hh V σ0 w0 σ listed a w) {l : Nat} {o : Oper} (hl : L l = true) (ho : ops[l]? = some o) (hrd : ∀ e ∈ o.after, Region.binds .any e = true → listed.getD e.on false = true)
    {v : AV} {u : Value} {σ1 : Sig} {w' : World} (a1 : AR σ1 w' v u) (a2 : Rel G σ1 (Hh 0) w') (a3 : Ext (rs σ (Hh 0).length) (Hh 0) w σ1 (Hh 0) w') (a4 : Quiet (rs σ (Hh 0).length) (Hh 0) w σ1 w') (hT : ∀ d, o.dst = some d → (T 0).getD d .any = v) :
    DInv G L ops m T Hh V σ0 w0 ⟨σ.ρ, σ1.ro⟩ (listed.setIfInBounds l true) (a.put o.dst u) w' := by
  have hil : l < listed.size := by
    rw [d.lsize]
    exact (Array.getElem?_eq_some_iff.1 ho).1
  have hml : m ≤ l := (ord.lge l o hl ho).1
  have lf : ∀ i, i ≤ m → Rel G (rs ⟨σ.ρ, σ1.ro⟩ (Hh i).length) (Hh i) w' ∧ Ext (rs σ (Hh i).length) (Hh i) w (rs ⟨σ.ρ, σ1.ro⟩ (Hh i).length) (Hh i) w' ∧ (∀ x v, AR (rs σ (Hh i).length) w x v → AR (rs ⟨σ.ρ, σ1.ro⟩ (Hh i).length) w' x v) ∧ (∀ x v, AR σ1 w' x v → AR (rs ⟨σ.ρ, σ1.ro⟩ (Hh i).length) w' x v) := fun i hi => by
    obtain ⟨N, hN⟩ := run_heap hst ord.le 0 i (Nat.zero_le _) hi
    have hlen : (Hh 0).length ≤ (Hh i).length := by rw [hN]; simp
    exact liftQ (σ := rs σ (Hh i).length) (d.rel 0 (Nat.zero_le _)) a2 a3 a4 (fun b ver l h => rs_of (Nat.lt_of_lt_of_le (rs_some h).1 hlen) (rs_some h).2) rfl (fun B ⟨b, k, l, g1, g2, g3, g4⟩ => ⟨b, k, l, by rw [hN, List.getElem?_append_left (List.getElem?_eq_some_iff.1 g1).1]; exact g1, g2, rs_of (Nat.lt_of_lt_of_le (rs_some g3).1 hlen) (rs_some g3).2, g4⟩) (d.rel i hi)
  have mono : ∀ i, i ≤ m → ∀ x v, AR (rs σ (Hh i).length) w x v → AR (rs ⟨σ.ρ, σ1.ro⟩ (Hh i).length) w' x v := fun i hi => (lf i hi).2.2.1
  refine ⟨(Act.put_def _ _ _).trans d.defers, (Act.put_size _ _ _).trans d.size, by simpa using d.lsize, fun k ok hk hok e he hb => ?_, fun k hk hLk => ?_, fun s hs hall hL => ?_, fun i oi s hi hoi hdi hs hli => ?_, fun i hi => (lf i hi).1, d.ext.trans (lf m (Nat.le_refl _)).2.1, fun i hi hli b ver hb1 hb2 => ?_⟩
  · rw [set_get hil] at hk ⊢
    by_cases hik : l = k
    · subst hik
      rw [ho] at hok
      cases hok
      split
      · rfl
      · exact hrd e he hb
    · rw [if_neg hik] at hk
      split
      · rfl
      · exact d.closed k ok hk hok e he hb
  · rw [set_get hil, if_neg (fun e => by rw [← e, hl] at hLk; cases hLk)]
    exact d.tailUn k hk hLk
  · rw [put_getD _ _ _ _ (by rw [d.size]; exact hs)]
    by_cases hd : o.dst = some s
    · rw [if_pos hd, hT s hd]
      exact (lf 0 (Nat.zero_le _)).2.2.2 _ _ a1
    · rw [if_neg hd]
      refine mono 0 (Nat.zero_le _) _ _ (d.old s hs (fun k ok hk hok hdk => ?_) fun l' ol hl' hol hdl => ?_)
      · have := hall k ok hk hok hdk
        rw [set_get hil, if_neg (by omega)] at this
        exact this
      · have := hL l' ol hl' hol hdl
        rw [set_get hil, if_neg (fun e => by subst e; rw [ho] at hol; cases hol; exact hd hdl)] at this
        exact this
  · rw [set_get hil, if_neg (by omega)] at hli
    rw [put_getD _ _ _ _ (by rw [d.size]; exact hs), if_neg (fun hd => (ord.lwr l o s i oi hl ho hd (by omega) hoi).1 hdi)]
    exact mono (i + 1) (by omega) _ _ (d.new i oi s hi hoi hdi hs hli)
  · rw [set_get hil, if_neg (by omega)] at hli
    exact d.keys i hi hli b ver hb1 hb2
/-- What no other operation writes stays. -/
def Stable (L : Nat → Bool) (ops : Array Oper) (s : Tmp) : Prop := ∀ i oi, ops[i]? = some oi → L i = false → oi.dst ≠ some s
theorem Ord.stD (ord : Ord ops m L) {l : Nat} {o : Oper} {d : Tmp} (hl : L l = true) (ho : ops[l]? = some o) (hd : o.dst = some d) : Stable L ops d := fun i oi hoi hLi =>
  (ord.lwr l o d i oi hl ho hd (fun e => by rw [e, hl] at hLi; cases hLi) hoi).1
theorem Ord.stR (ord : Ord ops m L) {l : Nat} {o : Oper} {s : Tmp} (hl : L l = true) (ho : ops[l]? = some o) (hs : s ∈ readsOf ops o) : Stable L ops s := fun i oi hoi hLi hd => by
  rw [(ord.lrd l o s i oi hl ho hs hoi hd).1] at hLi
  cases hLi
theorem Ord.preL (ord : Ord ops m L) {i : Nat} {o : Oper} (hi : i < m) (ho : ops[i]? = some o) : L i = false := by
  cases h : L i with
  | false => rfl
  | true =>
    have := (ord.lge i o h ho).1
    omega
theorem opnd_read {o : Oper} {s : Tmp} (h : Operand.tmp s ∈ o.op.operands) : s ∈ readsOf ops o := by
  simp only [readsOf, List.mem_append, List.mem_filterMap]
  exact .inl ⟨.tmp s, by simpa using h, rfl⟩
variable {T' : Nat → List AV} {H' : Nat → AHeap}
/-- The tail's run. -/
def TailRun (P : Program) (G : Glob) (L : Nat → Bool) (ops : Array Oper) (m : Nat) (T' : Nat → List AV) (H' : Nat → AHeap) : Prop :=
  ∀ k, m ≤ k → ∀ o, ops[k]? = some o → if L k = true then T' (k + 1) = T' k ∧ H' (k + 1) = H' k else StepF P G ops o (T' k) (T' (k + 1)) (H' k) (H' (k + 1))
theorem tail_len (ht : TailRun P G L ops m T' H') (hm : m ≤ ops.size) : ∀ k, m ≤ k → k ≤ ops.size → (T' k).length = (T' m).length := by
  intro k
  induction k with
  | zero => intro h _; obtain rfl : m = 0 := by omega
            rfl
  | succ k ih =>
    intro h1 h2
    by_cases e : m = k + 1
    · rw [e]
    · have hs := ht k (by omega) _ (Array.getElem?_eq_getElem (by omega))
      split at hs
      · rw [hs.1]
        exact ih (by omega) (by omega)
      · obtain ⟨v, h3, _⟩ := hs
        rw [h3, tput_length]
        exact ih (by omega) (by omega)
theorem tail_stable (ht : TailRun P G L ops m T' H') (hm : m ≤ ops.size) {s : Tmp} (hs : Stable L ops s) (hlt : s < (T' m).length) : ∀ k, m ≤ k → k ≤ ops.size → (T' k).getD s .any = (T' m).getD s .any := by
  intro k
  induction k with
  | zero => intro h _; obtain rfl : m = 0 := by omega
            rfl
  | succ k ih =>
    intro h1 h2
    by_cases e : m = k + 1
    · rw [e]
    · have hget : ops[k]? = some ops[k] := Array.getElem?_eq_getElem (by omega)
      have hst := ht k (by omega) _ hget
      split at hst
      · rw [hst.1]
        exact ih (by omega) (by omega)
      · rename_i hL
        obtain ⟨v, h3, _⟩ := hst
        rw [h3, tput_getD _ _ _ _ (by rw [tail_len ht hm k (by omega) (by omega)]; exact hlt), if_neg (hs k _ hget (by simpa using hL))]
        exact ih (by omega) (by omega)
def left (ops : Array Oper) (listed : Array Bool) : Nat := ((List.range ops.size).filter fun i => !listed.getD i false).length
theorem left_set {listed : Array Bool} (hs : listed.size = ops.size) {i : Nat} (hi : i < ops.size) (h1 : listed.getD i false = false) : left ops (listed.setIfInBounds i true) < left ops listed := by
  have hil : i < listed.size := by omega
  unfold left
  have e : ((List.range ops.size).filter fun j => !(listed.setIfInBounds i true).getD j false) = ((List.range ops.size).filter fun j => !listed.getD j false).filter fun j => j != i := by
    rw [List.filter_filter]
    congr 1
    funext j
    rw [set_get hil]
    by_cases hij : i = j
    · subst hij
      simp
    · simp only [hij, if_false]
      have : (j != i) = true := by simp; exact fun e => hij e.symm
      simp [this]
  rw [e]
  have hmem : i ∈ (List.range ops.size).filter fun j => !listed.getD j false := List.mem_filter.2 ⟨by simpa using hi, by simp [h1]⟩
  refine Nat.lt_of_le_of_ne (List.length_filter_le _ _) fun he => ?_
  have := (List.length_filter_eq_length_iff.1 he) i hmem
  simp at this
theorem left_zero {listed : Array Bool} (h : left ops listed = 0) : ∀ i, i < ops.size → listed.getD i false = true := fun i hi => by
  cases hx : listed.getD i false with
  | true => rfl
  | false =>
    have : i ∈ (List.range ops.size).filter fun i => !listed.getD i false := List.mem_filter.2 ⟨by simpa using hi, by simp [hx]⟩
    have := List.length_pos_of_mem this
    unfold left at h
    omega
theorem closed_set {listed : Array Bool} (hs : listed.size = ops.size) {i : Nat} {o : Oper} (ho : ops[i]? = some o) (hrd : ∀ e ∈ o.after, Region.binds .any e = true → listed.getD e.on false = true)
    (hc : ∀ i o, listed.getD i false = true → ops[i]? = some o → ∀ e ∈ o.after, Region.binds .any e = true → listed.getD e.on false = true) :
    ∀ j p, (listed.setIfInBounds i true).getD j false = true → ops[j]? = some p → ∀ e ∈ p.after, Region.binds .any e = true → (listed.setIfInBounds i true).getD e.on false = true := by
  intro j p hj hp e he hb
  have hil : i < listed.size := by rw [hs]; exact (Array.getElem?_eq_some_iff.1 ho).1
  rw [set_get hil] at hj ⊢
  by_cases hij : i = j
  · subst hij
    rw [ho] at hp
    cases hp
    split
    · rfl
    · exact hrd e he hb
  · rw [if_neg hij] at hj
    split
    · rfl
    · exact hc j p hj hp e he hb
theorem free_go {l : Nat} {o : Oper} (hgd : o.guard = none) {t : List AV} (hf : FreeAt P G t o H) {a : Act} {F : Act → World → Prop} {ho : ops[l]? = some o}
    (hx : ∀ x, x ∈ o.op.operands → AR σ w (aenv G t x) (a.eval x)) (rel : Rel G σ H w)
    (hF : ∀ (v : AV) (u : Value) (σ1 : Sig) (w' : World), AR σ1 w' v u → Rel G σ1 H w' → Ext σ H w σ1 H w' → Quiet σ H w σ1 w' → (∀ d, o.dst = some d → t.getD d .any = v) → F (a.put o.dst u) w') : wpOp P ops Q l F a w := by
  obtain ⟨v, hop, hd⟩ := hf
  unfold wpOp
  rw [ho]
  simp only
  have hw : Region.wanted o (yielded ops a.tmps) = true := by simp [Region.wanted, hgd]
  rw [hw]
  simp only [if_true]
  exact .inl (hop σ w a F Q hx rel fun u w' ⟨σ1, f1, f2, f3, f4⟩ => hF v u σ1 w' f1 f2 f3 (f4 rfl) hd)
/-- The tail, with late ones among it. -/
theorem tail_late (ord : Ord ops m L) (ht : TailRun P G L ops m T' H') {t0 : List AV} (hlen : (T' m).length = t0.length) (hst0 : ∀ s, Stable L ops s → (T' m).getD s .any = t0.getD s .any)
    {kb : Nat} (hbar : kb < ops.size → L kb = false ∧ ∀ l, L l = true → l < ops.size → (befs ops kb).testBit l = true)
    (hfr : ∀ k, m ≤ k → k ≤ kb → k ≤ ops.size → ∀ l o, L l = true → ops[l]? = some o → FreeAt P G t0 o (H' k)) {H0 : AHeap}
    (hend : ∀ (σ : Sig) (a : Act) (w : World), Sim G σ (T' ops.size) (H' ops.size) a w → Ext σ0 H0 w0 σ (H' ops.size) w → Q .normal a w) :
    ∀ (fuel k : Nat) (listed : Array Bool) (a : Act) (w : World) (σ : Sig), m ≤ k → k ≤ ops.size → left ops listed ≤ fuel → listed.size = ops.size → (∀ i, i < ops.size → L i = false → (listed.getD i false = true ↔ i < k)) →
    (∀ i o, listed.getD i false = true → ops[i]? = some o → ∀ e ∈ o.after, Region.binds .any e = true → listed.getD e.on false = true) → SimL G L ops listed σ (T' k) (H' k) a w → Ext σ0 H0 w0 σ (H' k) w → wpAny P .any ops Q fuel listed a w := by
  -- from k on there are late ones only
  have skip : ∀ k i, m ≤ k → k ≤ i → i ≤ ops.size → (∀ j, k ≤ j → j < i → L j = true) → T' i = T' k ∧ H' i = H' k := by
    intro k i hk
    induction i with
    | zero => intro h _ _; obtain rfl : k = 0 := by omega
              exact ⟨rfl, rfl⟩
    | succ i ih =>
      intro h1 h2 h3
      by_cases e : k = i + 1
      · subst e
        exact ⟨rfl, rfl⟩
      · obtain ⟨e1, e2⟩ := ih (by omega) (by omega) (fun j hj hji => h3 j hj (by omega))
        have := ht i (by omega) _ (Array.getElem?_eq_getElem (by omega))
        rw [if_pos (h3 i (by omega) (by omega))] at this
        exact ⟨this.1.trans e1, this.2.trans e2⟩
  have done : ∀ (k : Nat) (listed : Array Bool) (a : Act) (w : World) (σ : Sig), m ≤ k → k ≤ ops.size → (∀ i, i < ops.size → L i = false → (listed.getD i false = true ↔ i < k)) → (∀ i, i < ops.size → listed.getD i false = true) → SimL G L ops listed σ (T' k) (H' k) a w → Ext σ0 H0 w0 σ (H' k) w → Q .normal a w := by
    intro k listed a w σ hk hks hl hall s x
    obtain ⟨e1, e2⟩ := skip k ops.size hk hks (Nat.le_refl _) (fun j hj hjs => by
      cases h : L j with
      | true => rfl
      | false =>
        have := (hl j hjs h).1 (hall j hjs)
        omega)
    refine hend σ a w ?_ ?_
    · rw [e1, e2]
      exact s.down fun l ol h1 h2 => hall l (Array.getElem?_eq_some_iff.1 h2).1
    · rw [e2]
      exact x
  intro fuel
  induction fuel with
  | zero =>
    intro k listed a w σ hm hk hf hs hl hc s x
    have hall := left_zero (ops := ops) (listed := listed) (by omega)
    refine ⟨?_, done k listed a w σ hm hk hl hall s x⟩
    rw [List.eq_nil_iff_forall_not_mem]
    intro i hi
    obtain ⟨h1, h2⟩ := ready_un hi hs
    rw [hall i h2] at h1
    cases h1
  | succ fuel ih =>
    intro k listed a w σ hm hk hf hs hl hc s x
    refine ⟨fun hr => ?_, fun i hi => ?_⟩
    · refine done k listed a w σ hm hk hl (fun i hi => ?_) s x
      cases hx : listed.getD i false with
      | true => rfl
      | false =>
        obtain ⟨j, _, hj⟩ := some_ready ord.low hs ops.size (Nat.le_refl _) ⟨i, hi, hx⟩
        rw [hr] at hj
        cases hj
    · obtain ⟨h1, h2⟩ := ready_un hi hs
      obtain ⟨_, o, ho, hrd⟩ := mem_ready.1 hi
      have hrd' : ∀ e ∈ o.after, Region.binds .any e = true → listed.getD e.on false = true := fun e he hb => hrd e he hb
      have hil : i < listed.size := by omega
      have hlt := left_set hs h2 h1
      have hc' := closed_set hs ho hrd' hc
      have hs' : (listed.setIfInBounds i true).size = ops.size := by simpa using hs
      cases hLi : L i with
      | true =>
        -- a late one
        have hgd := (ord.lge i o hLi ho).2
        have hkb : k ≤ kb := by
          refine Nat.le_of_not_lt fun hlt => ?_
          obtain ⟨b1, b2⟩ := hbar (by omega)
          have hbl := (hl kb (by omega) b1).2 hlt
          have hget : ops[kb]? = some ops[kb] := Array.getElem?_eq_getElem (by omega)
          have := bef_listed ord.low hc kb _ hget (fun e he hb => hc kb _ hbl hget e he hb) i (b2 i hLi h2)
          rw [h1] at this
          cases this
        refine free_go (ho := ho) hgd (hfr k hm hkb hk i o hLi ho) (fun y hy => ?_) s.rel (fun v u σ1 w' a1 a2 a3 a4 hd => ?_)
        · cases y with
          | tmp q =>
            have hq := opnd_read (ops := ops) hy
            by_cases hqt : q < t0.length
            · have e : (T' k).getD q .any = t0.getD q .any := by
                rw [tail_stable ht ord.le (ord.stR hLi ho hq) (by rw [hlen]; exact hqt) k hm hk]
                exact hst0 q (ord.stR hLi ho hq)
              have := s.tmps q (by rw [tail_len ht ord.le k hm hk, hlen]; exact hqt) (fun l ol hl' hol hdl => bef_listed ord.low hc i o ho hrd' l (ord.lrd i o q l ol hLi ho hq hol hdl).2)
              rw [e] at this
              exact this
            · have : aenv G t0 (.tmp q) = .any := by simp [aenv, List.getD_eq_getElem?_getD, List.getElem?_eq_none (Nat.le_of_not_lt hqt)]
              rw [this]
              exact .any _
          | const c => exact toAV_ar c
          | global g => exact s.rel.glob g
          | func f => exact .fn #[] rfl (fun j hj => by simp at hj)
        · obtain ⟨r1, x1, mono, mono1⟩ := liftQ s.rel a2 a3 a4 (σ := σ) (fun _ _ _ h => h) rfl (fun _ h => h) s.rel
          refine ih k _ _ _ ⟨σ.ρ, σ1.ro⟩ hm hk (by omega) hs' (fun j hj hLj => ?_) hc' ?_ (x.trans x1)
          · rw [set_get hil, if_neg (fun e => by rw [← e, hLi] at hLj; cases hLj)]
            exact hl j hj hLj
          · refine ⟨(Act.put_def _ _ _).trans s.defers, (Act.put_size _ _ _).trans s.size, fun q hq hL => ?_, r1⟩
            rw [put_getD _ _ _ _ (by rw [s.size]; exact hq)]
            by_cases hd' : o.dst = some q
            · rw [if_pos hd', tail_stable ht ord.le (ord.stD hLi ho hd') (by rw [← tail_len ht ord.le k hm hk]; exact hq) k hm hk, hst0 q (ord.stD hLi ho hd'), hd q hd']
              exact mono1 _ _ a1
            · rw [if_neg hd']
              refine mono _ _ (s.tmps q hq fun l ol hl' hol hdl => ?_)
              have := hL l ol hl' hol hdl
              rw [set_get hil, if_neg (fun e => by subst e; rw [ho] at hol; cases hol; exact hd' hdl)] at this
              exact this
      | false =>
        -- the next one of the tail
        have hki : k ≤ i := by
          rcases Nat.lt_or_ge i k with h | h
          · rw [(hl i h2 hLi).2 h] at h1
            cases h1
          · exact h
        have hbet : ∀ j, k ≤ j → j < i → L j = true := fun j hj hji => by
          cases h : L j with
          | true => rfl
          | false =>
            have := bef_listed ord.low hc i o ho hrd' j (ord.tail i (by omega) h2 hLi j hji h)
            have := (hl j (by omega) h).1 this
            omega
        obtain ⟨e1, e2⟩ := skip k i hm hki (by omega) hbet
        have hstep := ht i (by omega) o ho
        rw [if_neg (by rw [hLi]; decide)] at hstep
        obtain ⟨v, g1, wd, hw, g2⟩ := hstep
        rw [← e1, ← e2] at s
        rw [← e2] at x
        have hslot : ∀ q, q ∈ readsOf ops o → AR σ w ((T' i).getD q .any) (a.tmps.getD q undef) ∧ (q < a.tmps.size ∨ (T' i).getD q .any = .any) := by
          intro q hq
          by_cases hqt : q < (T' i).length
          · exact ⟨s.tmps q hqt fun l ol hl' hol hdl => bef_listed ord.low hc i o ho hrd' l ((ord.lwr l ol q i o hl' hol hdl (fun e => by rw [e, hl'] at hLi; cases hLi) ho).2 hq), .inl (by rw [s.size]; exact hqt)⟩
          · have : (T' i).getD q .any = .any := by simp [List.getD_eq_getElem?_getD, List.getElem?_eq_none (Nat.le_of_not_lt hqt)]
            rw [this]
            exact ⟨.any _, .inr rfl⟩
        have hwd : Region.wanted o (yielded ops a.tmps) = wd := hw σ w a fun g want dd hg hd => hslot dd (by simp [readsOf, hg, hd])
        have hl' : ∀ j, j < ops.size → L j = false → ((listed.setIfInBounds i true).getD j false = true ↔ j < i + 1) := by
          intro j hj hLj
          rw [set_get hil]
          by_cases hij : i = j
          · subst hij
            simp
          · rw [if_neg hij, hl j hj hLj]
            constructor
            · intro h; omega
            · intro h
              rcases Nat.lt_or_ge j k with h' | h'
              · exact h'
              · rw [hbet j h' (by omega)] at hLj
                cases hLj
        have next : ∀ (σ' : Sig) (u : Value) (w' : World), AR σ' w' v u → Rel G σ' (H' (i + 1)) w' → Ext σ (H' i) w σ' (H' (i + 1)) w' → wpAny P .any ops Q fuel (listed.setIfInBounds i true) (a.put o.dst u) w' := by
          intro σ' u w' f1 f2 f3
          refine ih (i + 1) _ _ _ σ' (by omega) (by omega) (by omega) hs' hl' hc' ?_ (x.trans f3)
          refine ⟨(Act.put_def _ _ _).trans s.defers, by rw [Act.put_size, g1, tput_length]; exact s.size, fun q hq hL => ?_, f2⟩
          rw [g1, tput_length] at hq
          rw [g1, tput_getD _ _ _ _ hq, put_getD _ _ _ _ (by rw [s.size]; exact hq)]
          split
          · exact f1
          · refine (s.tmps q hq fun l ol hl' hol hdl => ?_).ext s.rel f3
            have := hL l ol hl' hol hdl
            rw [set_get hil, if_neg (fun e => by rw [e, hl'] at hLi; cases hLi)] at this
            exact this
        unfold wpOp
        rw [ho]
        simp only
        rw [hwd]
        cases wd with
        | true =>
          simp only [if_true] at g2 ⊢
          refine .inl (g2 σ w a _ Q (fun y hy => ?_) s.rel fun u w' ⟨σ1, f1, f2, f3, _⟩ => next σ1 u w' f1 f2 f3)
          cases y with
          | tmp q => exact (hslot q (opnd_read hy)).1
          | const c => exact toAV_ar c
          | global g => exact s.rel.glob g
          | func f => exact .fn #[] rfl (fun j hj => by simp at hj)
        | false =>
          simp only [Bool.false_eq_true, if_false] at g2 ⊢
          obtain ⟨hv, hH⟩ := g2
          exact next σ undef w (by rw [hv]; exact .v _) (by rw [hH]; exact s.rel) (by rw [hH]; exact Ext.refl _ _ _)
theorem draw_late (ord : Ord ops m L) (hst : ∀ i, i < m → ∀ o, ops[i]? = some o → StepAt P G ops o (T i) (T (i + 1)) (Hh i) (Hh (i + 1)) (V i))
    (ht : TailRun P G L ops m T' H') (hT : T' m = T m) (hH : H' m = Hh m) {kb : Nat} (hbar : kb < ops.size → L kb = false ∧ ∀ l, L l = true → l < ops.size → (befs ops kb).testBit l = true)
    (hfr0 : ∀ l o, L l = true → ops[l]? = some o → FreeAt P G (T 0) o (Hh 0)) (hfr : ∀ k, m ≤ k → k ≤ kb → k ≤ ops.size → ∀ l o, L l = true → ops[l]? = some o → FreeAt P G (T 0) o (H' k))
    (hend : ∀ (σ : Sig) (a : Act) (w : World), Sim G σ (T' ops.size) (H' ops.size) a w → Ext σ0 (Hh 0) w0 σ (H' ops.size) w → Q .normal a w) :
    ∀ (fuel : Nat) (listed : Array Bool) (a : Act) (w : World) (σ : Sig), DInv G L ops m T Hh V σ0 w0 σ listed a w → left ops listed ≤ fuel → wpAny P .any ops Q fuel listed a w := by
  have hlen : (T' m).length = (T 0).length := by rw [hT]; exact run_len hst ord.le m (Nat.le_refl _)
  have hst0 : ∀ s, Stable L ops s → (T' m).getD s .any = (T 0).getD s .any := fun s hs => by
    by_cases hlt : s < (T 0).length
    · rw [hT]
      exact run_old ord hst hlt m (Nat.le_refl _) fun j oj hj hoj => hs j oj hoj (ord.preL hj hoj)
    · rw [List.getD_eq_getElem?_getD, List.getD_eq_getElem?_getD, List.getElem?_eq_none (by rw [hlen]; exact Nat.le_of_not_lt hlt), List.getElem?_eq_none (Nat.le_of_not_lt hlt)]
  have toTail : ∀ (fuel : Nat) (listed : Array Bool) (a : Act) (w : World) (σ : Sig), DInv G L ops m T Hh V σ0 w0 σ listed a w → (∀ i, i < m → listed.getD i false = true) → left ops listed ≤ fuel → wpAny P .any ops Q fuel listed a w := by
    intro fuel listed a w σ d hall hf
    have s := d.all ord hst hall
    refine tail_late ord ht hlen hst0 hbar hfr hend fuel m listed a w _ (Nat.le_refl _) ord.le hf d.lsize (fun i hi hLi => ⟨fun h => ?_, fun h => hall i h⟩) d.closed (by rw [hT, hH]; exact s) (by rw [hH]; exact d.ext)
    rcases Nat.lt_or_ge i m with h' | h'
    · exact h'
    · rw [d.tailUn i h' hLi] at h
      cases h
  intro fuel
  induction fuel with
  | zero =>
    intro listed a w σ d hf
    refine toTail 0 listed a w σ d (fun i hi => left_zero (ops := ops) (by omega) i ?_) hf
    have := ord.le
    omega
  | succ fuel ih =>
    intro listed a w σ d hf
    by_cases hall : ∀ i, i < m → listed.getD i false = true
    · exact toTail _ listed a w σ d hall hf
    · have hex : ∃ i, i < m ∧ listed.getD i false = false := by
        refine Classical.byContradiction fun hn => hall fun i hi => ?_
        cases h : listed.getD i false with
        | true => rfl
        | false => exact absurd ⟨i, hi, h⟩ hn
      refine ⟨fun hr => ?_, fun i hi => ?_⟩
      · obtain ⟨i, _, hi⟩ := some_ready ord.low d.lsize m ord.le hex
        rw [hr] at hi
        cases hi
      · obtain ⟨h1, h2⟩ := ready_un hi d.lsize
        obtain ⟨_, o, ho, hrd⟩ := mem_ready.1 hi
        have hrd' : ∀ e ∈ o.after, Region.binds .any e = true → listed.getD e.on false = true := fun e he hb => hrd e he hb
        have hlt := left_set d.lsize h2 h1
        cases hLi : L i with
        | true =>
          refine free_go (ho := ho) (H := Hh 0) (σ := rs σ (Hh 0).length) (ord.lge i o hLi ho).2 (hfr0 i o hLi ho) (fun y hy => ?_) (d.rel 0 (Nat.zero_le _)) (fun v u σ1 w' a1 a2 a3 a4 hd => ?_)
          · cases y with
            | tmp q =>
              have hq := opnd_read (ops := ops) hy
              by_cases hqt : q < (T 0).length
              · exact d.old q hqt (fun k ok hk hok hdk => absurd hdk (ord.stR hLi ho hq k ok hok (ord.preL hk hok))) (fun l ol hl' hol hdl => bef_listed ord.low d.closed i o ho hrd' l (ord.lrd i o q l ol hLi ho hq hol hdl).2)
              · have : aenv G (T 0) (.tmp q) = .any := by simp [aenv, List.getD_eq_getElem?_getD, List.getElem?_eq_none (Nat.le_of_not_lt hqt)]
                rw [this]
                exact .any _
            | const c => exact toAV_ar c
            | global g => exact (d.rel 0 (Nat.zero_le _)).glob g
            | func f => exact .fn #[] rfl (fun j hj => by simp at hj)
          · exact ih _ _ _ _ (d.free ord hst hLi ho hrd' a1 a2 a3 a4 hd) (by omega)
        | false =>
          have him : i < m := by
            rcases Nat.lt_or_ge i m with h | h
            · exact h
            · obtain ⟨j, hj, hjun⟩ := hex
              have := bef_listed ord.low d.closed i o ho hrd' j (ord.tail i h h2 hLi j (by omega) (ord.preL hj (Array.getElem?_eq_getElem (by have := ord.le; omega))))
              rw [hjun] at this
              cases this
          have hcount : ∀ (σ' : Sig) (a' : Act) (w' : World), DInv G L ops m T Hh V σ0 w0 σ' (listed.setIfInBounds i true) a' w' → wpAny P .any ops Q fuel (listed.setIfInBounds i true) a' w' := fun σ' a' w' d' => ih _ _ _ σ' d' (by omega)
          have hlen0 := run_len hst ord.le i (by omega)
          obtain ⟨e1, ⟨N, hN⟩, wd, hw, hstep⟩ := hst i him o ho
          have hslot : ∀ s, s ∈ readsOf ops o → AR (rs σ (Hh i).length) w ((T i).getD s .any) (a.tmps.getD s undef) ∧ (s < a.tmps.size ∨ (T i).getD s .any = .any) := by
            intro s hs
            by_cases hlt : s < (T 0).length
            · exact ⟨d.slot ord hst him ho h1 hrd' hlt hs, .inl (by rw [d.size]; exact hlt)⟩
            · have hge : (T i).length ≤ s := by rw [hlen0]; exact Nat.le_of_not_lt hlt
              have : (T i).getD s .any = .any := by simp [List.getD_eq_getElem?_getD, List.getElem?_eq_none hge]
              rw [this]
              exact ⟨.any _, .inr rfl⟩
          have hwd : Region.wanted o (yielded ops a.tmps) = wd := hw (rs σ (Hh i).length) w a fun g want dd hg hd => hslot dd (by simp [readsOf, hg, hd])
          unfold wpOp
          rw [ho]
          simp only
          rw [hwd]
          cases wd with
          | true =>
            simp only [if_true] at hstep ⊢
            refine .inl (hstep (rs σ (Hh i).length) w a _ Q (fun x hx => ?_) (d.rel i (by omega)) fun u w' ⟨σ1, f1, f2, f3, f4⟩ => hcount _ _ _ (d.step ord hst him ho h1 hrd' f1 f2 f3 (f4 rfl)))
            cases x with
            | tmp s => exact (hslot s (opnd_read hx)).1
            | const c => exact toAV_ar c
            | global g => exact (d.rel i (by omega)).glob g
            | func f => exact .fn #[] rfl (fun j hj => by simp at hj)
          | false =>
            simp only [Bool.false_eq_true, if_false] at hstep ⊢
            obtain ⟨hv, hH⟩ := hstep
            refine hcount _ _ _ (d.step (σ1 := rs σ (Hh i).length) (w' := w) ord hst him ho h1 hrd' (by rw [hv]; exact .v _) (by rw [hH]; exact d.rel i (by omega)) (by rw [hH]; exact Ext.refl _ _ _) (Quiet.refl _ _ _))
end
end Go.Abs
namespace Go.Abs
set_option linter.unusedVariables false
set_option linter.unusedSimpArgs false
variable {P : Program} {ops : Array Oper} {Q : Exit → Act → World → Prop} {ro : Option Nat} {n : Nat}
/-- No bound but that a round may be under way. -/
def wr (ro : Option Nat) : Fence := { Fence.wide with round := ro }
theorem callsIn_wr {f : FuncId} {args : Array Value} {w : World} {R : Ending → World → Prop} (h : Calls P f args w R) : CallsIn (wr ro) n P f args w R := (callsIn_wide (n := n)).2 h
theorem rowsIn_wr {row : String} {args : Array Value} {w : World} {R : Value → World → Prop} (h : Rows P row args w R) : RowsIn (wr ro) n P row args w R := fun c cs _ =>
  let ⟨v, w', r, s⟩ := h c cs
  ⟨v, w', r, stepsIn_wide.2 s⟩
def noDefer (ops : List Oper) : Bool := ops.all fun o => match o.op with
  | .defer _ => false
  | _ => true
theorem noDefer_at {l : List Oper} (h : noDefer l = true) : ∀ o ∈ l, ∀ c, o.op ≠ .defer c := fun o ho c e => by
  have := List.all_eq_true.1 h o ho
  rw [e] at this
  cases this
theorem op_in {o : Oper} (hd : ∀ c, o.op ≠ .defer c) {a : Act} {w : World} {K : Act → World → Prop} (h : o.wp P a w K Q) : o.wpIn (wr ro) n P a w K Q := by
  unfold Oper.wp at h
  unfold Oper.wpIn
  refine ⟨fun _ _ => trivial, ?_⟩
  rw [Oper.semAt_eq _ _ _ hd]
  generalize (execOp a.eval o).run P w = r at *
  cases r with
  | ok x w' =>
    cases x <;> simp only [Oper.upon, Oper.uponIn] at h ⊢ <;>
      first
        | exact h
        | exact ⟨(fun e => by cases e), callsIn_wr (Calls.mono h (fun e w'' he => by cases e <;> exact he))⟩
        | exact ⟨(fun e => by cases e), rowsIn_wr h⟩
  | halt x w' => cases x <;> simp only [Oper.upon, Oper.uponIn] at h ⊢ <;> exact h
theorem list_in (hQ : ¬ LetsOut Q) : ∀ {l : List Oper} {a : Act} {w : World}, (∀ o ∈ l, ∀ c, o.op ≠ .defer c) → wpList P ops Q l a w → wpListIn (wr ro) n P ops Q l a w
  | [], _, _, _, h => h
  | o :: rest, a, w, hd, h => by
    unfold wpList at h
    unfold wpListIn
    split
    · rename_i hw
      rw [if_pos hw] at h
      rcases h with h | h
      · exact op_in (hd o List.mem_cons_self) (Oper.wp_mono (fun a w h => list_in hQ (fun o ho => hd o (List.mem_cons_of_mem _ ho)) h) h)
      · exact absurd h.2 hQ
    · rename_i hw
      rw [if_neg hw] at h
      exact ⟨fun _ _ => trivial, list_in hQ (fun o ho => hd o (List.mem_cons_of_mem _ ho)) h⟩
theorem any_in (hQ : ¬ LetsOut Q) (hd : ∀ o ∈ ops.toList, ∀ c, o.op ≠ .defer c) {md : Region.Mode} : ∀ (fuel : Nat) (listed : Array Bool) (a : Act) (w : World), wpAny P md ops Q fuel listed a w → wpAnyIn (wr ro) n P md ops Q fuel listed a w
  | 0, _, _, _, h => h
  | fuel + 1, listed, a, w, h => by
    refine ⟨h.1, fun i hi => ?_⟩
    have h := h.2 i hi
    unfold wpOp at h
    unfold wpOpIn
    cases ho : ops[i]? with
    | none =>
      rw [ho] at h
      exact any_in hQ hd fuel _ _ _ h
    | some o =>
      rw [ho] at h
      simp only at h ⊢
      have hm : o ∈ ops.toList := by
        have := Array.mem_of_getElem? ho
        simpa using this
      split
      · rename_i hw
        rw [if_pos hw] at h
        rcases h with h | h
        · exact op_in (hd o hm) (Oper.wp_mono (fun a w h => any_in hQ hd fuel _ a w h) h)
        · exact absurd h.2 hQ
      · rename_i hw
        rw [if_neg hw] at h
        exact ⟨fun _ _ => trivial, any_in hQ hd fuel _ _ _ h⟩
/-- The post of a row of operations. -/
def nrm (Q : Exit → Act → World → Prop) : Exit → Act → World → Prop := fun e a w => e = .normal ∧ Q .normal a w
theorem nrm_out : ¬ LetsOut (nrm Q) := fun ⟨_, _, h, _⟩ => by cases h
theorem region_list {id : Nat} {a : Act} {w : World} (hd : noDefer ops.toList = true) (h : wpList P ops (nrm Q) ops.toList a w) : (Code.region id ops false).wpIn (wr ro) n P Q a w :=
  Code.wpIn_mono (fun e a w hq => by obtain ⟨rfl, hq⟩ := hq; exact hq) (wpIn_region_list (list_in nrm_out (noDefer_at hd) h))
theorem region_any {id : Nat} {a : Act} {w : World} (hm : P.follows .mixedOrders = true) (hd : noDefer ops.toList = true) (h : wpAny P .any ops (nrm Q) ops.size (Array.replicate ops.size false) a { w with drawn := w.drawn + 1 }) : (Code.region id ops true).wpIn (wr ro) n P Q a w :=
  Code.wpIn_mono (fun e a w hq => by obtain ⟨rfl, hq⟩ := hq; exact hq) (wpIn_region_any hm (any_in nrm_out (noDefer_at hd) _ _ _ _ h))
theorem wpIn_loop_ghost {F : Fence} {a : Act} {w : World} {c : Code} (I : Nat → Act → World → Prop) (n₀ : Nat) (h₀ : I n₀ a w)
    (round : ∀ k a w, I k a w → c.wpIn F n P (Exit.then (fun a' w' => ∃ n', n' < k ∧ I n' a' w') Q) a w) : (Code.loop c).wpIn F n P Q a w := by
  refine wpIn_loop (fun a w => ∃ n, I n a w) (fun a w => leastOf (fun n => I n a w)) ⟨n₀, h₀⟩ ?_
  intro a w hI
  refine Code.wpIn_mono ?_ (round _ a w (leastOf_spec hI).1)
  intro e a' w' hq
  cases e with
  | normal =>
    obtain ⟨n', hlt, hI'⟩ := hq
    exact show (∃ n, I n a' w') ∧ leastOf (fun n => I n a' w') < leastOf (fun n => I n a w) from ⟨⟨n', hI'⟩, Nat.lt_of_le_of_lt ((leastOf_spec ⟨n', hI'⟩).2 n' hI') hlt⟩
  | exit id => exact hq
  | goto l => exact hq
  | ret => exact hq
  | panic ch => exact hq
  | outgrown => exact hq
end Go.Abs
namespace Go.Abs
set_option linter.unusedVariables false
set_option linter.unusedSimpArgs false
variable {P : Program} {G : Glob} {σ : Sig} {H : AHeap} {w : World}
structure LOp where
  d : Option Tmp
  op : Op
  g : Option (Tmp × Bool)
inductive LCode where
  | skip
  | reg (pre post : List LOp)
  | regl (late pre mid post : List LOp)
  | seq (a b : LCode)
  | cond (c : Operand) (a b : LCode)
  | block (id : Nat) (c : LCode)
  | loop (c : LCode)
  | exit (id : Nat)
  | ret
  | bad
def aopO (P : Program) (G : Glob) (q nx : Bool) (env : Operand → AV) (H : AHeap) (op : Op) (K : AV → AHeap → Prop) : Prop := aop P G q nx env H ⟨none, op, 0, "", #[], none⟩ K
def nxL : List LOp → Bool
  | ⟨_, .convert _ _ _, _⟩ :: _ => true
  | _ => false
def lguardV (x : AV) (want : Bool) (K1 K2 : Prop) : Prop := match x with
  | .v (.bool c) => (c = want → K1) ∧ (c = !want → K2)
  | .v (.tuple _) => K2
  | _ => False
@[go_sem] theorem lguardV_bool (c want : Bool) (K1 K2 : Prop) : lguardV (.v (.bool c)) want K1 K2 = ((c = want → K1) ∧ (c = !want → K2)) := rfl
@[go_sem] theorem lguardV_undef (want : Bool) (K1 K2 : Prop) : lguardV (.v undef) want K1 K2 = K2 := rfl
def lguard (t : List AV) (g : Option (Tmp × Bool)) (K1 K2 : Prop) : Prop :=
  match g with
  | none => K1
  | some (d, want) => lguardV (t.getD d .any) want K1 K2
def lops (P : Program) (G : Glob) (q : Bool) : List LOp → List AV → AHeap → (List AV → AHeap → Prop) → Prop
  | [], t, H, K => K t H
  | o :: rest, t, H, K => ∃ bs : List Nat, (q = true → bs = []) ∧ afz bs t H fun t H => lguard t o.g (aopO P G q (nxL rest) (aenv G t) H o.op fun r H' => lops P G q rest (tput t o.d r) H' K) (lops P G q rest (tput t o.d (.v undef)) H K)
def slim (ops : Array Oper) (o : Oper) : LOp :=
  match o.guard with
  | none => ⟨o.dst, o.op, none⟩
  | some (g, want) => match (ops[g]?).bind (·.dst) with
    | some d => ⟨o.dst, o.op, some (d, want)⟩
    | none => ⟨o.dst, .recv 0 (.tmp 0) false, none⟩
theorem aopO_eq (q nx : Bool) (env : Operand → AV) (o : Oper) (K : AV → AHeap → Prop) : aopO P G q nx env H o.op K = aop P G q nx env H o K := by
  unfold aopO aop
  rfl
theorem slim_ok {q nx : Bool} {ops : Array Oper} {o : Oper} {t : List AV} {env : Operand → AV} {F1 : AV → AHeap → Prop} {F2 : Prop} (h : lguard t (slim ops o).g (aopO P G q nx env H (slim ops o).op F1) F2) : (slim ops o).d = o.dst ∧ aguard ops t o (aop P G q nx env H o F1) F2 := by
  unfold slim at h ⊢
  unfold aguard
  cases hg : o.guard with
  | none =>
    simp only [hg, lguard, aopO_eq] at h ⊢
    exact ⟨trivial, h⟩
  | some gw =>
    obtain ⟨g, want⟩ := gw
    simp only [hg] at h ⊢
    cases hd : (ops[g]?).bind (·.dst) with
    | none =>
      simp only [hd, lguard] at h
      simp [aopO, aop] at h
    | some d =>
      simp only [hd, lguard, aopO_eq] at h ⊢
      refine ⟨trivial, ?_⟩
      unfold lguardV at h
      split at h <;> simp_all
theorem lops_list {ops : Array Oper} {Q : Exit → Act → World → Prop} : ∀ {l : List Oper} {t : List AV} {H : AHeap} {K : List AV → AHeap → Prop}, lops P G false (l.map (slim ops)) t H K → ∀ (σ : Sig) (a : Act) (w : World), Sim G σ t H a w →
    (∀ t' H' σ' a' w', K t' H' → Sim G σ' t' H' a' w' → Ext σ H w σ' H' w' → Q .normal a' w') → wpList P ops Q l a w
  | [], t, H, K, h, σ, a, w, s, hQ => hQ _ _ _ _ _ h s (Ext.refl _ _ _)
  | o :: rest, t, H, K, h, σ, a, w, s, hQ => by
    obtain ⟨bs, _, h⟩ := h
    obtain ⟨t0, H0, σ0, h, s, x0⟩ := afz_ok h s
    obtain ⟨hd, h⟩ := slim_ok h
    obtain ⟨wd, h, hw⟩ := aguard_ok h
    refine wpList_step fun KK hKK => ?_
    rw [hw σ0 w a (fun g want d _ _ => sim_guard s d)]
    cases wd with
    | true =>
      simp only [if_true] at h ⊢
      obtain ⟨r, H', hK, hop, _⟩ := aop_ok h
      rw [hd] at hK
      refine hop σ0 w a KK Q (fun x _ => s.env x) s.rel fun u w' ⟨σ', a1, a2, a3, _⟩ => hKK _ _ ?_
      exact lops_list hK σ' _ w' (s.put (q := false) a1 a2 a3) fun t' H'' σ'' a' w'' k1 k2 k3 => hQ _ _ _ _ _ k1 k2 (x0.trans (a3.trans k3))
    | false =>
      simp only [Bool.false_eq_true, if_false] at h ⊢
      rw [hd] at h
      refine hKK _ _ (lops_list h σ0 _ w (s.put (q := false) (.v _) s.rel (Ext.refl _ _ _)) fun t' H'' σ'' a' w'' k1 k2 k3 => hQ _ _ _ _ _ k1 k2 (x0.trans k3))
theorem lops_run {ops : Array Oper} : ∀ {l : List Oper} {t : List AV} {H : AHeap} {K : List AV → AHeap → Prop}, lops P G true (l.map (slim ops)) t H K →
    ∃ (T : Nat → List AV) (Hh : Nat → AHeap) (V : Nat → AV), T 0 = t ∧ Hh 0 = H ∧ K (T l.length) (Hh l.length) ∧ ∀ k o, l[k]? = some o → StepAt P G ops o (T k) (T (k + 1)) (Hh k) (Hh (k + 1)) (V k)
  | [], t, H, K, h => ⟨fun _ => t, fun _ => H, fun _ => .any, rfl, rfl, h, fun k o hk => by simp at hk⟩
  | o :: rest, t, H, K, h => by
    obtain ⟨bs, hbs, h⟩ := h
    cases hbs rfl
    obtain ⟨hd, h⟩ := slim_ok h
    obtain ⟨wd, h, hw⟩ := aguard_ok h
    have fin : ∀ (v : AV) (H' : AHeap), lops P G true (rest.map (slim ops)) (tput t o.dst v) H' K → StepAt P G ops o t (tput t o.dst v) H H' v →
        ∃ (T : Nat → List AV) (Hh : Nat → AHeap) (V : Nat → AV), T 0 = t ∧ Hh 0 = H ∧ K (T (o :: rest).length) (Hh (o :: rest).length) ∧ ∀ k o', (o :: rest)[k]? = some o' → StepAt P G ops o' (T k) (T (k + 1)) (Hh k) (Hh (k + 1)) (V k) := by
      intro v H' h hs
      obtain ⟨T, Hh, V, h1, h2, h3, h4⟩ := lops_run h
      refine ⟨fun k => match k with | 0 => t | k + 1 => T k, fun k => match k with | 0 => H | k + 1 => Hh k, fun k => match k with | 0 => v | k + 1 => V k, rfl, rfl, h3, fun k o' hk => ?_⟩
      cases k with
      | zero =>
        simp at hk
        subst hk
        show StepAt P G ops o t (T 0) H (Hh 0) v
        rw [h1, h2]
        exact hs
      | succ k => exact h4 k o' (by simpa using hk)
    cases wd with
    | true =>
      simp only [if_true] at h
      obtain ⟨r, H', hK, hop, hN⟩ := aop_ok h
      rw [hd] at hK
      exact fin r H' hK ⟨rfl, hN rfl, true, hw, hop⟩
    | false =>
      simp only [Bool.false_eq_true, if_false] at h
      rw [hd] at h
      exact fin _ H h ⟨rfl, ⟨[], by simp⟩, false, hw, rfl, rfl⟩
/-- The tail without its late ones, in order. -/
def lopsN (P : Program) (G : Glob) : List LOp → List AV → AHeap → (List AV → AHeap → Prop) → Prop
  | [], t, H, K => K t H
  | o :: rest, t, H, K => lguard t o.g (aopO P G false (nxL rest) (aenv G t) H o.op fun r H' => lopsN P G rest (tput t o.d r) H' K) (lopsN P G rest (tput t o.d (.v undef)) H K)
def restL (L : Nat → Bool) (ops : Array Oper) : Nat → List Oper → List LOp
  | _, [] => []
  | k, o :: r => if L k then restL L ops (k + 1) r else slim ops o :: restL L ops (k + 1) r
def lateL (L : Nat → Bool) (ops : Array Oper) : Nat → List Oper → List LOp
  | _, [] => []
  | k, o :: r => if L k then slim ops o :: lateL L ops (k + 1) r else lateL L ops (k + 1) r
/-- A late operation, as it is looked at. -/
def lfree (P : Program) (G : Glob) (t : List AV) (o : LOp) : Prop :=
  ∃ v, NR v ∧ (∀ x, x ∈ o.op.operands → NR (aenv G t x)) ∧ aopO P G true false (aenv G t) [] o.op (fun r H' => r = v ∧ H' = []) ∧ ∀ d, o.d = some d → t.getD d .any = v
def lfrees (P : Program) (G : Glob) (t : List AV) : List LOp → Prop
  | [] => True
  | o :: r => lfree P G t o ∧ lfrees P G t r
theorem lopsN_run {L : Nat → Bool} {ops : Array Oper} : ∀ {l : List Oper} {k0 : Nat} {t : List AV} {H : AHeap} {K : List AV → AHeap → Prop}, lopsN P G (restL L ops k0 l) t H K →
    ∃ (T : Nat → List AV) (Hh : Nat → AHeap), T 0 = t ∧ Hh 0 = H ∧ K (T l.length) (Hh l.length) ∧ ∀ j o, l[j]? = some o → if L (k0 + j) = true then T (j + 1) = T j ∧ Hh (j + 1) = Hh j else StepF P G ops o (T j) (T (j + 1)) (Hh j) (Hh (j + 1))
  | [], k0, t, H, K, h => ⟨fun _ => t, fun _ => H, rfl, rfl, h, fun j o hj => by simp at hj⟩
  | o :: rest, k0, t, H, K, h => by
    have fin : ∀ (t1 : List AV) (H1 : AHeap), lopsN P G (restL L ops (k0 + 1) rest) t1 H1 K → (if L k0 = true then t1 = t ∧ H1 = H else StepF P G ops o t t1 H H1) →
        ∃ (T : Nat → List AV) (Hh : Nat → AHeap), T 0 = t ∧ Hh 0 = H ∧ K (T (o :: rest).length) (Hh (o :: rest).length) ∧ ∀ j o', (o :: rest)[j]? = some o' → if L (k0 + j) = true then T (j + 1) = T j ∧ Hh (j + 1) = Hh j else StepF P G ops o' (T j) (T (j + 1)) (Hh j) (Hh (j + 1)) := by
      intro t1 H1 h hs
      obtain ⟨T, Hh, h1, h2, h3, h4⟩ := lopsN_run h
      refine ⟨fun k => match k with | 0 => t | k + 1 => T k, fun k => match k with | 0 => H | k + 1 => Hh k, rfl, rfl, h3, fun j o' hj => ?_⟩
      cases j with
      | zero =>
        simp at hj
        subst hj
        show if L k0 = true then T 0 = t ∧ Hh 0 = H else StepF P G ops o t (T 0) H (Hh 0)
        rw [h1, h2]
        exact hs
      | succ j =>
        have := h4 j o' (by simpa using hj)
        rw [show k0 + (j + 1) = k0 + 1 + j from by omega]
        exact this
    cases hL : L k0 with
    | true =>
      simp only [restL, hL, if_true] at h
      exact fin t H h (by simp [hL])
    | false =>
      simp only [restL, hL, Bool.false_eq_true, if_false, lopsN] at h
      obtain ⟨hd, h⟩ := slim_ok h
      obtain ⟨wd, h, hw⟩ := aguard_ok h
      cases wd with
      | true =>
        simp only [if_true] at h
        obtain ⟨r, H', hK, hop, _⟩ := aop_ok h
        rw [hd] at hK
        exact fin _ _ hK (by rw [hL]; simp only [Bool.false_eq_true, if_false]; exact ⟨r, rfl, true, hw, hop⟩)
      | false =>
        simp only [Bool.false_eq_true, if_false] at h
        rw [hd] at h
        exact fin _ _ h (by rw [hL]; simp only [Bool.false_eq_true, if_false]; exact ⟨_, rfl, false, hw, rfl, rfl⟩)
/-- The same; F holds of memory ahead of each, and behind the last. -/
def lopsF (P : Program) (G : Glob) (F : AHeap → Prop) : List LOp → List AV → AHeap → (List AV → AHeap → Prop) → Prop
  | [], t, H, K => F H ∧ K t H
  | o :: rest, t, H, K => F H ∧ lguard t o.g (aopO P G false (nxL rest) (aenv G t) H o.op fun r H' => lopsF P G F rest (tput t o.d r) H' K) (lopsF P G F rest (tput t o.d (.v undef)) H K)
theorem lopsF_now {F : AHeap → Prop} {l : List LOp} {t : List AV} {H : AHeap} {K : List AV → AHeap → Prop} (h : lopsF P G F l t H K) : F H := by
  cases l <;> exact h.1
theorem lopsF_run {F : AHeap → Prop} {L : Nat → Bool} {ops : Array Oper} : ∀ {l : List Oper} {k0 : Nat} {t : List AV} {H : AHeap} {K : List AV → AHeap → Prop}, lopsF P G F (restL L ops k0 l) t H K →
    ∃ (T : Nat → List AV) (Hh : Nat → AHeap), T 0 = t ∧ Hh 0 = H ∧ K (T l.length) (Hh l.length) ∧ (∀ j, j ≤ l.length → F (Hh j)) ∧ ∀ j o, l[j]? = some o → if L (k0 + j) = true then T (j + 1) = T j ∧ Hh (j + 1) = Hh j else StepF P G ops o (T j) (T (j + 1)) (Hh j) (Hh (j + 1))
  | [], k0, t, H, K, h => ⟨fun _ => t, fun _ => H, rfl, rfl, h.2, fun _ _ => h.1, fun j o hj => by simp at hj⟩
  | o :: rest, k0, t, H, K, h => by
    have fin : ∀ (t1 : List AV) (H1 : AHeap), F H → lopsF P G F (restL L ops (k0 + 1) rest) t1 H1 K → (if L k0 = true then t1 = t ∧ H1 = H else StepF P G ops o t t1 H H1) →
        ∃ (T : Nat → List AV) (Hh : Nat → AHeap), T 0 = t ∧ Hh 0 = H ∧ K (T (o :: rest).length) (Hh (o :: rest).length) ∧ (∀ j, j ≤ (o :: rest).length → F (Hh j)) ∧ ∀ j o', (o :: rest)[j]? = some o' → if L (k0 + j) = true then T (j + 1) = T j ∧ Hh (j + 1) = Hh j else StepF P G ops o' (T j) (T (j + 1)) (Hh j) (Hh (j + 1)) := by
      intro t1 H1 hF0 h hs
      obtain ⟨T, Hh, h1, h2, h3, hF, h4⟩ := lopsF_run h
      refine ⟨fun k => match k with | 0 => t | k + 1 => T k, fun k => match k with | 0 => H | k + 1 => Hh k, rfl, rfl, h3, fun j hj => (match j, hj with | 0, _ => hF0 | j + 1, hj => hF j (by simpa using hj)), fun j o' hj => ?_⟩
      cases j with
      | zero =>
        simp at hj
        subst hj
        show if L k0 = true then T 0 = t ∧ Hh 0 = H else StepF P G ops o t (T 0) H (Hh 0)
        rw [h1, h2]
        exact hs
      | succ j =>
        have := h4 j o' (by simpa using hj)
        rw [show k0 + (j + 1) = k0 + 1 + j from by omega]
        exact this
    cases hL : L k0 with
    | true =>
      simp only [restL, hL, if_true] at h
      exact fin t H (lopsF_now h) h (by simp [hL])
    | false =>
      simp only [restL, hL, Bool.false_eq_true, if_false, lopsF] at h
      obtain ⟨hF0, h⟩ := h
      obtain ⟨hd, h⟩ := slim_ok h
      obtain ⟨wd, h, hw⟩ := aguard_ok h
      cases wd with
      | true =>
        simp only [if_true] at h
        obtain ⟨r, H', hK, hop, _⟩ := aop_ok h
        rw [hd] at hK
        exact fin _ _ hF0 hK (by rw [hL]; simp only [Bool.false_eq_true, if_false]; exact ⟨r, rfl, true, hw, hop⟩)
      | false =>
        simp only [Bool.false_eq_true, if_false] at h
        rw [hd] at h
        exact fin _ _ hF0 h (by rw [hL]; simp only [Bool.false_eq_true, if_false]; exact ⟨_, rfl, false, hw, rfl, rfl⟩)
/-- A late operation at one view of memory. -/
def lfreeAt (P : Program) (G : Glob) (t : List AV) (H : AHeap) (o : LOp) : Prop := aopO P G true false (aenv G t) H o.op (fun r H' => H' = H ∧ ∀ d, o.d = some d → t.getD d .any = r)
def lfreesAt (P : Program) (G : Glob) (t : List AV) : List LOp → AHeap → Prop
  | [], _ => True
  | o :: r, H => lfreeAt P G t H o ∧ lfreesAt P G t r H
theorem lfreesAt_at {L : Nat → Bool} {ops : Array Oper} {t : List AV} {H : AHeap} : ∀ {l : List Oper} {k0 : Nat}, lfreesAt P G t (lateL L ops k0 l) H → ∀ j o, l[j]? = some o → L (k0 + j) = true → o.guard = none → FreeAt P G t o H
  | [], k0, h, j, o, hj, _, _ => by simp at hj
  | p :: r, k0, h, 0, o, hj, hL, hg => by
    simp at hj
    subst hj
    rw [Nat.add_zero] at hL
    simp only [lateL, hL, if_true, lfreesAt] at h
    obtain ⟨h3, _⟩ := h
    have hs : slim ops p = ⟨p.dst, p.op, none⟩ := by simp [slim, hg]
    unfold lfreeAt at h3
    rw [hs] at h3
    simp only at h3
    rw [aopO_eq] at h3
    obtain ⟨r', H', ⟨rfl, h4⟩, hop, _⟩ := aop_ok h3
    exact ⟨r', hop, h4⟩
  | p :: r, k0, h, j + 1, o, hj, hL, hg => by
    have hL' : L (k0 + 1 + j) = true := by rw [show k0 + 1 + j = k0 + (j + 1) from by omega]; exact hL
    simp only [lateL] at h
    split at h
    · exact lfreesAt_at h.2 j o (by simpa using hj) hL' hg
    · exact lfreesAt_at h j o (by simpa using hj) hL' hg
/-- The first one of the tail that waits for all late ones. -/
def barOf (ops : Array Oper) (m : Nat) (l : List Nat) : Nat := ((List.range ops.size).find? fun k => decide (m ≤ k) && !l.contains k && l.all fun j => (befs ops k).testBit j).getD ops.size
theorem barOf_ok {ops : Array Oper} {m : Nat} {l : List Nat} (hm : m ≤ ops.size) : m ≤ barOf ops m l ∧ barOf ops m l ≤ ops.size ∧ (barOf ops m l < ops.size → l.contains (barOf ops m l) = false ∧ ∀ j, l.contains j = true → (befs ops (barOf ops m l)).testBit j = true) := by
  unfold barOf
  cases h : (List.range ops.size).find? fun k => decide (m ≤ k) && !l.contains k && l.all fun j => (befs ops k).testBit j with
  | none =>
    rw [Option.getD_none]
    exact ⟨hm, Nat.le_refl _, fun h => absurd h (Nat.lt_irrefl _)⟩
  | some k =>
    have h1 := List.find?_some h
    have h2 := List.mem_of_find?_eq_some h
    rw [List.mem_range] at h2
    simp only [Bool.and_eq_true, decide_eq_true_eq, Bool.not_eq_true', List.all_eq_true] at h1
    refine ⟨h1.1.1, Nat.le_of_lt h2, fun _ => ⟨h1.1.2, fun j hj => h1.2 j (by simpa using hj)⟩⟩
/-- Operations that turn nothing. -/
def pureOp : Op → Bool
  | .move _ | .assign _ | .pick .. | .load .. | .nilCheck _ | .binOp .. | .unOp .. | .fieldAddr .. | .field .. | .indexAddr .. | .index .. | .extract .. => true
  | _ => false
/-- Those of them that have no order to another one. -/
def lateB (ops : Array Oper) : List Nat :=
  let bs := befL ops.toList []
  (List.range ops.size).filter fun k => (match ops[k]? with
    | some o => pureOp o.op && o.guard.isNone
    | none => false) && (List.range ops.size).any fun j => j != k && !(bs.getD k 0).testBit j && !(bs.getD j 0).testBit k
/-- Where the loud ones begin, which ones come late; where a loud one has no order to what stands ahead of it, all that turns nothing and has no order is late. -/
def mL (P : Program) (imp : FuncId → Bool) (ops : Array Oper) : Nat × List Nat :=
  if (lateOf ops (mOf P imp ops.toList)).any fun k => match ops[k]? with
    | some o => loudOp P imp o.op
    | none => false
  then (0, lateB ops) else (mOf P imp ops.toList, lateOf ops (mOf P imp ops.toList))
def strip (P : Program) (imp : FuncId → Bool) : Code → LCode
  | .skip => .skip
  | .region _ ops draw => if noDefer ops.toList = true then (match draw with
    | true => if ordB ops (mOf P imp ops.toList) then .reg ((ops.toList.take (mOf P imp ops.toList)).map (slim ops)) ((ops.toList.drop (mOf P imp ops.toList)).map (slim ops))
      else if ordLB ops (mL P imp ops).1 (mL P imp ops).2 then .regl (lateL (fun k => (mL P imp ops).2.contains k) ops (mL P imp ops).1 (ops.toList.drop (mL P imp ops).1)) ((ops.toList.take (mL P imp ops).1).map (slim ops)) (restL (fun k => (mL P imp ops).2.contains k) ops (mL P imp ops).1 ((ops.toList.drop (mL P imp ops).1).take (barOf ops (mL P imp ops).1 (mL P imp ops).2 - (mL P imp ops).1))) (restL (fun k => (mL P imp ops).2.contains k) ops ((mL P imp ops).1 + (barOf ops (mL P imp ops).1 (mL P imp ops).2 - (mL P imp ops).1)) ((ops.toList.drop (mL P imp ops).1).drop (barOf ops (mL P imp ops).1 (mL P imp ops).2 - (mL P imp ops).1)))
      else .bad
    | false => .reg [] (ops.toList.map (slim ops))) else .bad
  | .seq a b => .seq (strip P imp a) (strip P imp b)
  | .cond c a b => .cond c (strip P imp a) (strip P imp b)
  | .block id c => .block id (strip P imp c)
  | .loop c => .loop (strip P imp c)
  | .exit id => .exit id
  | .label _ => .skip
  | .ret => .ret
  | _ => .bad
/-- A region; ahead of it blocks may be left to be read. -/
def lreg (P : Program) (G : Glob) (pre post : List LOp) (t : List AV) (H : AHeap) (K : List AV → AHeap → Prop) : Prop := ∃ (gs : List (Nat × Nat × TypeId)) (bs : List Nat), agh gs t H fun t H => afz bs t H fun t H => lops P G true pre t H fun t' H' => lops P G false post t' H' K
theorem lreg_go {pre post : List LOp} {t : List AV} {K : List AV → AHeap → Prop} (h : lops P G true pre t H fun t' H' => lops P G false post t' H' K) : lreg P G pre post t H K := ⟨[], [], h⟩
/-- Code, looked at: wherever it is run, it ends as Q tells. -/
def lavc (P : Program) (G : Glob) (lc : LCode) (t : List AV) (H : AHeap) (Q : APost) : Prop :=
  ∀ (imp : FuncId → Bool) (c : Code), strip P imp c = lc → P.follows .mixedOrders = true → ∀ (ro : Option Nat) (nn : Nat) (σ0 : Sig) (H0 : AHeap) (w0 : World) (σ : Sig) (a : Act) (w : World), Sim G σ t H a w → Ext σ0 H0 w0 σ H w → c.wpIn (wr ro) nn P (CPost G σ0 H0 w0 Q) a w
theorem lavc_ok {imp : FuncId → Bool} (hmix : P.follows .mixedOrders = true) (c : Code) (t : List AV) (H : AHeap) (Q : APost) (h : lavc P G (strip P imp c) t H Q) (σ0 : Sig) (H0 : AHeap) (w0 : World) (σ : Sig) (a : Act) (w : World) (s : Sim G σ t H a w) (x : Ext σ0 H0 w0 σ H w) : c.wp P (CPost G σ0 H0 w0 Q) a w :=
  wpIn_wide.1 (h imp c rfl hmix none 0 σ0 H0 w0 σ a w s x)
section
variable {imp : FuncId → Bool} {t : List AV} {Q R : APost}
theorem lavc_mono {c : LCode} (h : lavc P G c t H R) (hR : ∀ e t H, R e t H → Q e t H) : lavc P G c t H Q := fun imp c0 hc hm ro nn σ0 H0 w0 σ a w s x =>
  Code.wpIn_mono (fun e a' w' ⟨t', H', σ', k1, k2, k3⟩ => ⟨t', H', σ', hR _ _ _ k1, k2, k3⟩) (h imp c0 hc hm ro nn σ0 H0 w0 σ a w s x)
theorem lavc_weak {c : LCode} {t2 : List AV} (h : lavc P G c t2 H Q) (hle : ALe t t2) : lavc P G c t H Q := fun imp c0 hc hm ro nn σ0 H0 w0 σ a w s x => h imp c0 hc hm ro nn σ0 H0 w0 σ a w (hle.sim s) x
theorem strip_reg {c : Code} {pre post : List LOp} (h : strip P imp c = .reg pre post) : ∃ id ops draw, c = .region id ops draw ∧ noDefer ops.toList = true ∧ (draw = false → pre = [] ∧ post = ops.toList.map (slim ops)) ∧
    (draw = true → ordB ops (mOf P imp ops.toList) = true ∧ pre = (ops.toList.take (mOf P imp ops.toList)).map (slim ops) ∧ post = (ops.toList.drop (mOf P imp ops.toList)).map (slim ops)) := by
  cases c <;> simp only [strip, reduceCtorEq] at h
  rename_i id ops draw
  split at h
  · rename_i hdf
    cases draw
    · simp only [LCode.reg.injEq] at h
      exact ⟨_, _, _, rfl, hdf, fun _ => ⟨h.1.symm, h.2.symm⟩, (fun e => by cases e)⟩
    · simp only at h
      split at h
      · rename_i ho
        simp only [LCode.reg.injEq] at h
        exact ⟨_, _, _, rfl, hdf, (fun e => by cases e), fun _ => ⟨ho, h.1.symm, h.2.symm⟩⟩
      · split at h <;> cases h
  · cases h
theorem no_reg {id : Nat} {ops : Array Oper} {draw : Bool} {lc : LCode} (h : strip P imp (.region id ops draw) = lc) : (∃ pre post, lc = .reg pre post) ∨ (∃ ls pre mid post, lc = .regl ls pre mid post) ∨ lc = .bad := by
  simp only [strip] at h
  split at h
  · cases draw
    · exact .inl ⟨_, _, h.symm⟩
    · simp only at h
      split at h
      · exact .inl ⟨_, _, h.symm⟩
      · split at h
        · exact .inr (.inl ⟨_, _, _, _, h.symm⟩)
        · exact .inr (.inr h.symm)
  · exact .inr (.inr h.symm)
theorem strip_regl {c : Code} {ls pre mid post : List LOp} (h : strip P imp c = .regl ls pre mid post) : ∃ (id : Nat) (ops : Array Oper) (m : Nat) (l : List Nat), c = .region id ops true ∧ noDefer ops.toList = true ∧ ordLB ops m l = true ∧
    ls = lateL (fun k => l.contains k) ops m (ops.toList.drop m) ∧ pre = (ops.toList.take m).map (slim ops) ∧ mid = restL (fun k => l.contains k) ops m ((ops.toList.drop m).take (barOf ops m l - m)) ∧ post = restL (fun k => l.contains k) ops (m + (barOf ops m l - m)) ((ops.toList.drop m).drop (barOf ops m l - m)) := by
  cases c <;> simp only [strip, reduceCtorEq] at h
  rename_i id ops draw
  split at h
  · rename_i hdf
    cases draw
    · simp only [reduceCtorEq] at h
    · simp only at h
      split at h
      · cases h
      · split at h
        · rename_i ho
          simp only [LCode.regl.injEq] at h
          exact ⟨id, ops, _, _, rfl, hdf, ho, h.1.symm, h.2.1.symm, h.2.2.1.symm, h.2.2.2.symm⟩
        · cases h
  · cases h
theorem regl_core (hmix : P.follows .mixedOrders = true) {id : Nat} {ops : Array Oper} {m : Nat} {l : List Nat} (hord : ordLB ops m l = true) {tL : List AV} (hlen : tL.length = t.length)
    (hsame : ∀ s, (∀ o ∈ lateL (fun k => l.contains k) ops m (ops.toList.drop m), o.d ≠ some s) → tL.getD s .any = t.getD s .any) {T : Nat → List AV} {Hh : Nat → AHeap} {V : Nat → AV} (e1 : T 0 = tL) (e2 : Hh 0 = H)
    (hst' : ∀ i, i < m → ∀ o, ops[i]? = some o → StepAt P G ops o (T i) (T (i + 1)) (Hh i) (Hh (i + 1)) (V i)) {T' : Nat → List AV} {H' : Nat → AHeap} (ht : TailRun P G (fun k => l.contains k) ops m T' H') (f1 : T' m = T m) (f2 : H' m = Hh m)
    {kb : Nat} (hbar : kb < ops.size → (fun k => l.contains k) kb = false ∧ ∀ j, (fun k => l.contains k) j = true → j < ops.size → (befs ops kb).testBit j = true)
    (hfr0 : ∀ i o, (fun k => l.contains k) i = true → ops[i]? = some o → FreeAt P G (T 0) o (Hh 0)) (hfr : ∀ k, m ≤ k → k ≤ kb → k ≤ ops.size → ∀ i o, (fun k => l.contains k) i = true → ops[i]? = some o → FreeAt P G (T 0) o (H' k))
    (hK2 : Q .normal (T' ops.size) (H' ops.size)) (hdf : noDefer ops.toList = true) (ro : Option Nat) (nn : Nat) (σ0 : Sig) (H0 : AHeap) (w0 : World) (σ : Sig) (a : Act) (w : World) (s : Sim G σ t H a w) (x : Ext σ0 H0 w0 σ H w) : (Code.region id ops true).wpIn (wr ro) nn P (CPost G σ0 H0 w0 Q) a w := by
  have ord := Ord.ofL hord
  have hun : ∀ i, (Array.replicate ops.size false).getD i false = false := fun i => by
    simp only [Array.getD_eq_getD_getElem?, Array.getElem?_replicate]
    split <;> rfl
  have hw0 : ({ w with drawn := w.drawn + 1 } : World).heap = w.heap := rfl
  have s0 : SimL G (fun k => l.contains k) ops (Array.replicate ops.size false) σ (T 0) (Hh 0) a { w with drawn := w.drawn + 1 } := by
    rw [e1, e2]
    refine ⟨s.defers, s.size.trans hlen.symm, fun q hq hL => ?_, s.rel.drew hw0⟩
    rw [hsame q fun p hp hd => ?_]
    · exact (s.tmps q (by rw [← hlen]; exact hq)).drew hw0
    · -- a late one writes q: it would have come up already
      have gen : ∀ (lst : List Oper) (k0 : Nat), p ∈ lateL (fun k => l.contains k) ops k0 lst → ∃ j o, lst[j]? = some o ∧ (fun k => l.contains k) (k0 + j) = true ∧ p = slim ops o := by
        intro lst
        induction lst with
        | nil => intro k0 h; simp [lateL] at h
        | cons o r ih =>
          intro k0 h
          simp only [lateL] at h
          split at h
          · rename_i hL0
            rcases List.mem_cons.1 h with rfl | h
            · exact ⟨0, o, rfl, by simpa using hL0, rfl⟩
            · obtain ⟨j, o', h1, h2, h3⟩ := ih (k0 + 1) h
              exact ⟨j + 1, o', by simpa using h1, by rw [show k0 + (j + 1) = k0 + 1 + j from by omega]; exact h2, h3⟩
          · obtain ⟨j, o', h1, h2, h3⟩ := ih (k0 + 1) h
            exact ⟨j + 1, o', by simpa using h1, by rw [show k0 + (j + 1) = k0 + 1 + j from by omega]; exact h2, h3⟩
      obtain ⟨j, o, g1, g2, rfl⟩ := gen _ m hp
      have g3 : ops[m + j]? = some o := by
        rw [List.getElem?_drop] at g1
        simpa using g1
      have hgd := (ord.lge (m + j) o g2 g3).2
      have hdo : o.dst = some q := by simpa [slim, hgd] using hd
      have := hL (m + j) o g2 g3 hdo
      rw [hun] at this
      cases this
  refine region_any hmix hdf (draw_late (Q := nrm (CPost G σ0 H0 w0 Q)) (σ0 := σ) (w0 := { w with drawn := w.drawn + 1 }) ord hst' ht f1 f2 hbar hfr0 hfr (fun σ2 a2 w2 s2 x2 => ⟨rfl, _, _, σ2, hK2, s2, x.trans ?_⟩) ops.size _ a _ σ (DInv.start ord hst' s0) ?_)
  · rw [e2] at x2
    exact (Ext.drew (w := w) (w' := { w with drawn := w.drawn + 1 }) rfl rfl rfl rfl).trans x2
  · refine Nat.le_trans (List.length_filter_le _ _) ?_
    simp
/-- Two runs of the tail, as one. -/
theorem tail_two {L : Nat → Bool} {ops : Array Oper} {m kb : Nat} (hm : m ≤ kb) (hk : kb ≤ ops.size) {T2 T3 : Nat → List AV} {H2 H3 : Nat → AHeap}
    (h2 : ∀ j o, ((ops.toList.drop m).take (kb - m))[j]? = some o → if L (m + j) = true then T2 (j + 1) = T2 j ∧ H2 (j + 1) = H2 j else StepF P G ops o (T2 j) (T2 (j + 1)) (H2 j) (H2 (j + 1)))
    (h3 : ∀ j o, ((ops.toList.drop m).drop (kb - m))[j]? = some o → if L (m + (kb - m) + j) = true then T3 (j + 1) = T3 j ∧ H3 (j + 1) = H3 j else StepF P G ops o (T3 j) (T3 (j + 1)) (H3 j) (H3 (j + 1)))
    (e1 : T3 0 = T2 (kb - m)) (e2 : H3 0 = H2 (kb - m)) :
    ∃ (T' : Nat → List AV) (H' : Nat → AHeap), TailRun P G L ops m T' H' ∧ T' m = T2 0 ∧ H' m = H2 0 ∧ (∀ k, m ≤ k → k ≤ kb → H' k = H2 (k - m)) ∧ T' ops.size = T3 (ops.size - kb) ∧ H' ops.size = H3 (ops.size - kb) := by
  refine ⟨fun k => if k < kb then T2 (k - m) else T3 (k - kb), fun k => if k < kb then H2 (k - m) else H3 (k - kb), fun k hkm o ho => ?_, ?_, ?_, fun k h1 h4 => ?_, ?_, ?_⟩
  · by_cases hlt : k < kb
    · have := h2 (k - m) o (by rw [List.getElem?_take, if_pos (by omega), List.getElem?_drop, show m + (k - m) = k from by omega]; simpa using ho)
      rw [show m + (k - m) = k from by omega] at this
      have ea : (if k + 1 < kb then T2 (k + 1 - m) else T3 (k + 1 - kb)) = T2 (k - m + 1) := by
        by_cases h : k + 1 < kb
        · rw [if_pos h, show k + 1 - m = k - m + 1 from by omega]
        · rw [if_neg h, show k + 1 - kb = 0 from by omega, e1, show kb - m = k - m + 1 from by omega]
      have eb : (if k + 1 < kb then H2 (k + 1 - m) else H3 (k + 1 - kb)) = H2 (k - m + 1) := by
        by_cases h : k + 1 < kb
        · rw [if_pos h, show k + 1 - m = k - m + 1 from by omega]
        · rw [if_neg h, show k + 1 - kb = 0 from by omega, e2, show kb - m = k - m + 1 from by omega]
      simp only [ea, eb, hlt, if_true]
      exact this
    · have := h3 (k - kb) o (by rw [List.getElem?_drop, List.getElem?_drop, show m + (kb - m + (k - kb)) = k from by omega]; simpa using ho)
      rw [show m + (kb - m) + (k - kb) = k from by omega] at this
      have h5 : ¬ k + 1 < kb := by omega
      simp only [hlt, h5, if_false, show k + 1 - kb = k - kb + 1 from by omega]
      exact this
  · by_cases h : m < kb
    · simp only [h, if_true, Nat.sub_self]
    · obtain rfl : kb = m := by omega
      simp only [Nat.lt_irrefl, if_false, Nat.sub_self]
      rw [e1, Nat.sub_self]
  · by_cases h : m < kb
    · simp only [h, if_true, Nat.sub_self]
    · obtain rfl : kb = m := by omega
      simp only [Nat.lt_irrefl, if_false, Nat.sub_self]
      rw [e2, Nat.sub_self]
  · by_cases h : k < kb
    · simp only [h, if_true]
    · obtain rfl : kb = k := by omega
      simp only [Nat.lt_irrefl, if_false, Nat.sub_self]
      exact e2
  · have h : ¬ ops.size < kb := by omega
    simp only [h, if_false]
  · have h : ¬ ops.size < kb := by omega
    simp only [h, if_false]
/-- The same; what is late is looked at wherever it may come up. -/
theorem lavc_regq {ls pre mid post : List LOp} (tL : List AV) (hlen : tL.length = t.length) (hsame : ∀ s, (∀ o ∈ ls, o.d ≠ some s) → tL.getD s .any = t.getD s .any) (hf : lfreesAt P G tL ls H)
    (h : lops P G true pre tL H fun t' H' => lopsF P G (lfreesAt P G tL ls) mid t' H' fun t' H' => lopsN P G post t' H' (Q .normal)) : lavc P G (.regl ls pre mid post) t H Q := by
  intro imp c hc hmix ro nn σ0 H0 w0 σ a w s x
  obtain ⟨id, ops, m, l, rfl, hdf, hord, rfl, rfl, rfl, rfl⟩ := strip_regl hc
  have ord := Ord.ofL hord
  obtain ⟨b1, b2, b3⟩ := barOf_ok (l := l) ord.le
  generalize barOf ops m l = kb at *
  obtain ⟨T, Hh, V, e1, e2, hK, hst⟩ := lops_run h
  have hlen1 : (ops.toList.take m).length = m := by rw [List.length_take]; simp; omega
  rw [hlen1] at hK
  obtain ⟨T2, H2, f1, f2, hK2, hFF, hst2⟩ := lopsF_run hK
  have hlen2 : ((ops.toList.drop m).take (kb - m)).length = kb - m := by rw [List.length_take, List.length_drop]; simp; omega
  rw [hlen2] at hK2 hFF
  obtain ⟨T3, H3, g1, g2, hK3, hst3⟩ := lopsN_run hK2
  have hlen3 : ((ops.toList.drop m).drop (kb - m)).length = ops.size - kb := by rw [List.length_drop, List.length_drop]; simp; omega
  rw [hlen3] at hK3
  obtain ⟨T', H', ht, i1, i2, i3, i4, i5⟩ := tail_two b1 b2 hst2 hst3 g1 g2
  have hst' : ∀ i, i < m → ∀ o, ops[i]? = some o → StepAt P G ops o (T i) (T (i + 1)) (Hh i) (Hh (i + 1)) (V i) := fun i hi o ho => hst i o (by rw [List.getElem?_take, if_pos hi]; simpa using ho)
  have hfr : ∀ HH, lfreesAt P G tL (lateL (fun k => l.contains k) ops m (ops.toList.drop m)) HH → ∀ i o, (fun k => l.contains k) i = true → ops[i]? = some o → FreeAt P G (T 0) o HH := fun HH hF i o hL ho => by
    obtain ⟨hmi, hgd⟩ := ord.lge i o hL ho
    rw [e1]
    exact lfreesAt_at (L := fun k => l.contains k) hF (i - m) o (by rw [List.getElem?_drop, show m + (i - m) = i from by omega]; simpa using ho) (by rw [show m + (i - m) = i from by omega]; exact hL) hgd
  exact regl_core hmix hord hlen hsame e1 e2 hst' ht (i1.trans f1) (i2.trans f2) (kb := kb) (fun hk => ⟨(b3 hk).1, fun j hj _ => (b3 hk).2 j hj⟩) (hfr _ (by rw [e2]; exact hf)) (fun k h1 h2 _ => hfr _ (by rw [i3 k h1 h2]; exact hFF _ (by omega))) (by rw [i4, i5]; exact hK3) hdf ro nn σ0 H0 w0 σ a w s x
theorem lavc_reg0 {pre post : List LOp} (h : lreg P G pre post t H (Q .normal)) : lavc P G (.reg pre post) t H Q := by
  intro imp c hc hmix ro nn σ0 H0 w0 σ a w s x
  obtain ⟨id, ops, draw, rfl, hdf, hf, ht⟩ := strip_reg hc
  cases draw with
  | false =>
    obtain ⟨rfl, rfl⟩ := hf rfl
    obtain ⟨gs, bs, h⟩ := h
    obtain ⟨t0, H0', h, s, x0⟩ := agh_ok h s
    obtain ⟨t1, H1, σ1, h, s, x1⟩ := afz_ok h s
    exact region_list hdf (lops_list (l := ops.toList) h σ1 a w s fun t' H' σ' a' w' k1 k2 k3 => ⟨rfl, t', H', σ', k1, k2, x.trans (x0.trans (x1.trans k3))⟩)
  | true =>
    obtain ⟨hord, rfl, rfl⟩ := ht rfl
    obtain ⟨gs, bs, h⟩ := h
    obtain ⟨t0, H0', h, s, x0⟩ := agh_ok h s
    obtain ⟨t1, H1, σ1, h, s, x1⟩ := afz_ok h s
    have x := x.trans (x0.trans x1)
    clear x1 x0
    have ord := Ord.of hord
    obtain ⟨T, Hh, V, e1, e2, hK, hst⟩ := lops_run h
    generalize hm : mOf P imp ops.toList = m at *
    have hlen : (ops.toList.take m).length = m := by rw [List.length_take]; have := ord.le; simp; omega
    rw [hlen] at hK
    have hst' : ∀ i, i < m → ∀ o, ops[i]? = some o → StepAt P G ops o (T i) (T (i + 1)) (Hh i) (Hh (i + 1)) (V i) := fun i hi o ho => hst i o (by rw [List.getElem?_take, if_pos hi]; simpa using ho)
    have hw0 : ({ w with drawn := w.drawn + 1 } : World).heap = w.heap := rfl
    have s0 : Sim G σ1 (T 0) (Hh 0) a { w with drawn := w.drawn + 1 } := by
      rw [e1, e2]
      exact ⟨s.defers, s.size, fun j hj => (s.tmps j hj).drew hw0, s.rel.drew hw0⟩
    refine region_any hmix hdf (draw_any (σ0 := σ1) (w0 := { w with drawn := w.drawn + 1 }) ord hst' (fun σ2 a2 w2 s2 x2 => ?_) ops.size _ a _ σ1 (DInv.start ord hst' s0.lift) _ rfl ?_)
    · refine lops_list (l := ops.toList.drop m) hK σ2 a2 w2 s2 fun t' H' σ' a' w' k1 k2 k3 => ⟨rfl, t', H', σ', k1, k2, x.trans ?_⟩
      rw [e2] at x2
      exact (Ext.drew (w := w) (w' := { w with drawn := w.drawn + 1 }) rfl rfl rfl rfl).trans (x2.trans k3)
    · have : ((List.range m).filter fun i => !(Array.replicate ops.size false).getD i false).length ≤ m := by
        refine Nat.le_trans (List.length_filter_le _ _) ?_
        simp
      have := ord.le
      omega
theorem lavc_skip (h : Q .normal t H) : lavc P G .skip t H Q := by
  intro imp c hc hmix ro nn σ0 H0 w0 σ a w s x
  cases c with
  | skip => exact wpIn_skip ⟨t, H, σ, h, s, x⟩
  | label l => exact wpIn_label ⟨t, H, σ, h, s, x⟩
  | region id ops draw => rcases no_reg hc with ⟨_, _, e⟩ | ⟨_, _, _, _, e⟩ | e <;> cases e
  | _ => simp only [strip, reduceCtorEq] at hc
theorem lavc_exit {id : Nat} (h : Q (.exit id) t H) : lavc P G (.exit id) t H Q := by
  intro imp c hc hmix ro nn σ0 H0 w0 σ a w s x
  cases c with
  | exit i =>
    simp only [strip, LCode.exit.injEq] at hc
    subst hc
    exact wpIn_exit ⟨t, H, σ, h, s, x⟩
  | region id ops draw => rcases no_reg hc with ⟨_, _, e⟩ | ⟨_, _, _, _, e⟩ | e <;> cases e
  | _ => simp only [strip, reduceCtorEq] at hc
theorem lavc_ret (h : Q .ret t H) : lavc P G .ret t H Q := by
  intro imp c hc hmix ro nn σ0 H0 w0 σ a w s x
  cases c with
  | ret => exact wpIn_ret ⟨t, H, σ, h, s, x⟩
  | region id ops draw => rcases no_reg hc with ⟨_, _, e⟩ | ⟨_, _, _, _, e⟩ | e <;> cases e
  | _ => simp only [strip, reduceCtorEq] at hc
theorem lavc_seq {a b : LCode} (h : lavc P G a t H fun e t' H' => match e with
    | .normal => lavc P G b t' H' Q
    | e => Q e t' H') : lavc P G (.seq a b) t H Q := by
  intro imp c hc hmix ro nn σ0 H0 w0 σ ac w s x
  cases c with
  | seq c d =>
    simp only [strip, LCode.seq.injEq] at hc
    obtain ⟨hc1, hc2⟩ := hc
    refine wpIn_seq (Code.wpIn_mono (fun e a' w' hq => ?_) (h imp c hc1 hmix ro nn σ0 H0 w0 σ ac w s x))
    obtain ⟨t', H', σ', k1, k2, k3⟩ := hq
    cases e with
    | normal => exact k1 imp d hc2 hmix ro nn σ0 H0 w0 σ' a' w' k2 k3
    | _ => exact ⟨t', H', σ', k1, k2, k3⟩
  | region id ops draw => rcases no_reg hc with ⟨_, _, e⟩ | ⟨_, _, _, _, e⟩ | e <;> cases e
  | _ => simp only [strip, reduceCtorEq] at hc
theorem strip_cond {c : Code} {o : Operand} {a b : LCode} (hc : strip P imp c = .cond o a b) : ∃ x y, c = .cond o x y ∧ strip P imp x = a ∧ strip P imp y = b := by
  cases c with
  | cond o' x y =>
    simp only [strip, LCode.cond.injEq] at hc
    obtain ⟨rfl, h1, h2⟩ := hc
    exact ⟨_, _, rfl, h1, h2⟩
  | region id ops draw => rcases no_reg hc with ⟨_, _, e⟩ | ⟨_, _, _, _, e⟩ | e <;> cases e
  | _ => simp only [strip, reduceCtorEq] at hc
theorem lavc_cond {c : Operand} {a b : LCode} {x : Bool} (hx : aenv G t c = .v (.bool x)) (h1 : x = true → lavc P G a t H Q) (h2 : x = false → lavc P G b t H Q) : lavc P G (.cond c a b) t H Q := by
  intro imp c0 hc hmix ro nn σ0 H0 w0 σ ac w s xt
  obtain ⟨ca, cb, rfl, e1, e2⟩ := strip_cond hc
  have hv := s.env c
  rw [hx] at hv
  have hv : ac.eval c = .bool x := by
    generalize ac.eval c = u at *
    cases hv
    rfl
  exact wpIn_cond_split hv (fun hb => h1 hb imp ca e1 hmix ro nn σ0 H0 w0 σ ac w s xt) (fun hb => h2 hb imp cb e2 hmix ro nn σ0 H0 w0 σ ac w s xt)
theorem lavc_block {id : Nat} {c : LCode} (h : lavc P G c t H fun e t' H' => match e with
    | .exit i => if i = id then Q .normal t' H' else Q (.exit i) t' H'
    | e => Q e t' H') : lavc P G (.block id c) t H Q := by
  intro imp c0 hc hmix ro nn σ0 H0 w0 σ a w s x
  cases c0 with
  | block id' c' =>
    simp only [strip, LCode.block.injEq] at hc
    obtain ⟨rfl, hc⟩ := hc
    refine wpIn_block (Code.wpIn_mono (fun e a' w' hq => ?_) (h imp c' hc hmix ro nn σ0 H0 w0 σ a w s x))
    obtain ⟨t', H', σ', k1, k2, k3⟩ := hq
    cases e with
    | exit i =>
      simp only [Exit.inBlock]
      simp only at k1
      by_cases hi : i = id'
      · rw [if_pos hi] at k1 ⊢
        exact ⟨t', H', σ', k1, k2, k3⟩
      · rw [if_neg hi] at k1 ⊢
        exact ⟨t', H', σ', k1, k2, k3⟩
    | _ => exact ⟨t', H', σ', k1, k2, k3⟩
  | region id ops draw => rcases no_reg hc with ⟨_, _, e⟩ | ⟨_, _, _, _, e⟩ | e <;> cases e
  | _ => simp only [strip, reduceCtorEq] at hc
theorem lavc_loop0 {c : LCode} {X : Type} (I : Nat → X → Prop) (mk : X → List AV) (hp : X → AHeap) (n0 : Nat) (x0 : X) (gs : List (Nat × Nat × TypeId)) (bs : List Nat)
    (h0 : agh gs t H fun t H => afz bs t H fun t H => I n0 x0 ∧ ALe t (mk x0) ∧ H = hp x0)
    (h : ∀ n x, I n x → lavc P G c (mk x) (hp x) fun e t' H' => match e with
      | .normal => ∃ n' x', n' < n ∧ I n' x' ∧ ALe t' (mk x') ∧ H' = hp x'
      | e => Q e t' H') : lavc P G (.loop c) t H Q := by
  intro imp c0 hc hmix ro nn σ0 H0 w0 σ a w s x
  cases c0 with
  | loop c' =>
    simp only [strip, LCode.loop.injEq] at hc
    obtain ⟨t0, H0', h0, s, e0⟩ := agh_ok h0 s
    obtain ⟨t1, H1, σ1, h0, s, e1⟩ := afz_ok h0 s
    obtain ⟨hI, hle, rfl⟩ := h0
    refine wpIn_loop_ghost (fun n a' w' => ∃ x' σ', I n x' ∧ Sim G σ' (mk x') (hp x') a' w' ∧ Ext σ0 H0 w0 σ' (hp x') w') n0 ⟨x0, σ1, hI, hle.sim s, x.trans (e0.trans e1)⟩ ?_
    rintro n a' w' ⟨x', σ', hI', s', xt'⟩
    refine Code.wpIn_mono (fun e a2 w2 hq => ?_) (h n x' hI' imp c' hc hmix ro nn σ0 H0 w0 σ' a' w' s' xt')
    obtain ⟨t2, H2, σ2, k1, k2, k3⟩ := hq
    cases e with
    | normal =>
      obtain ⟨n', x2, hlt, hI2, hle2, rfl⟩ := k1
      exact ⟨n', hlt, x2, σ2, hI2, hle2.sim k2, k3⟩
    | _ => exact ⟨t2, H2, σ2, k1, k2, k3⟩
  | region id ops draw => rcases no_reg hc with ⟨_, _, e⟩ | ⟨_, _, _, _, e⟩ | e <;> cases e
  | _ => simp only [strip, reduceCtorEq] at hc
end
/-- What a program is known by. -/
structure Ctx (P : Program) (G : Glob) : Prop where
  nr : GN G
  mix : P.follows .mixedOrders = true
/-- A call, out of its lean body. -/
theorem LCall (ctx : Ctx P G) {imp : FuncId → Bool} {n : FuncId} {fn : Func} {c : Code} {lc : LCode} {rs : List ResultVar} {nt : Nat} (hf : P.funcs[n]? = some fn) (hname : (fn.name == "runtime.NumGoroutine") = false) (hb : fn.body = some c) (hl : strip P imp c = lc) (hr : fn.results.toList = rs) (hnt : fn.ntmps = nt)
    {args : List AV} (hargs : args.length ≤ nt) {H0 : AHeap} (lo : Nat) (hlo : H0.length ≤ lo) {r0 : AV} {H0' : AHeap}
    (h : lavc P G lc (args ++ List.replicate (nt - args.length) (.v undef)) H0 fun e t H => (e = .normal ∨ e = .ret) ∧ aret P t H rs fun r => View lo H r r0 ∧ lo ≤ H.length ∧ (∀ b k, b < lo → H[b]? = some k → ∀ c ∈ k.cells, NR c) ∧ H.take lo = H0') :
    ACall P G (H0.length == 0) n args H0 r0 H0' := by
  subst hl hr hnt
  refine ⟨⟨fn, hf, hname, by rw [hb]; rfl⟩, fun σ w us hu ha rel => calls_of_wp hf hb ?_⟩
  have s : Sim G σ (args ++ List.replicate (fn.ntmps - args.length) (.v undef)) H0 { tmps := us ++ Array.replicate (fn.ntmps - us.size) undef, defers := [] } w := by
    refine ⟨rfl, by simp [hu], fun j hj => ?_, rel⟩
    simp only [List.length_append, List.length_replicate] at hj
    by_cases hja : j < args.length
    · have := ha j hja
      simpa [List.getD_eq_getElem?_getD, List.getElem?_append, Array.getElem?_append, hja, hu] using this
    · have e1 : (args ++ List.replicate (fn.ntmps - args.length) (AV.v undef)).getD j .any = .v undef := by
        rw [List.getD_eq_getElem?_getD, List.getElem?_append_right (by omega), List.getElem?_replicate, if_pos (by omega)]
        rfl
      have e2 : (us ++ Array.replicate (fn.ntmps - us.size) undef).getD j undef = undef := by
        rw [Array.getD_eq_getD_getElem?, Array.getElem?_append, if_neg (by omega), Array.getElem?_replicate, if_pos (by omega)]
        rfl
      rw [e1, e2]
      exact .v _
  refine Code.wp_mono (fun e a w' hq => ?_) (lavc_ok ctx.mix c _ H0 _ h σ H0 w σ _ w s (Ext.refl _ _ _))
  obtain ⟨t, H, σ', ⟨he, hr⟩, s', x⟩ := hq
  obtain ⟨r, u, ⟨hv, hl2, hn, rfl⟩, hrun, hru⟩ := aret_ok s' hr
  have hres := Res.cut ctx.nr rel s'.rel x hlo hl2 hv hru hn
  rcases he with rfl | rfl <;> exact ⟨s'.defers, u, hrun, u, rfl, hres⟩
theorem LCall' (ctx : Ctx P G) {imp : FuncId → Bool} {n : FuncId} {fn : Func} {lc : LCode} {rs : List ResultVar} {nt : Nat} (hf : P.funcs[n]? = some fn) (hname : (fn.name == "runtime.NumGoroutine") = false) (hl : fn.body.map (strip P imp) = some lc) (hr : fn.results.toList = rs) (hnt : fn.ntmps = nt)
    {args : List AV} (hargs : args.length ≤ nt) {H0 : AHeap} (lo : Nat) (hlo : H0.length ≤ lo) {r0 : AV} {H0' : AHeap}
    (h : lavc P G lc (args ++ List.replicate (nt - args.length) (.v undef)) H0 fun e t H => (e = .normal ∨ e = .ret) ∧ aret P t H rs fun r => View lo H r r0 ∧ lo ≤ H.length ∧ (∀ b k, b < lo → H[b]? = some k → ∀ c ∈ k.cells, NR c) ∧ H.take lo = H0') :
    ACall P G (H0.length == 0) n args H0 r0 H0' := by
  obtain ⟨c, hb, hl⟩ := Option.map_eq_some_iff.1 hl
  exact LCall ctx hf hname hb hl hr hnt hargs lo hlo h
/-- The same, with all that it made. -/
theorem LCallK (ctx : Ctx P G) {imp : FuncId → Bool} {n : FuncId} {fn : Func} {c : Code} {lc : LCode} {rs : List ResultVar} {nt : Nat} (hf : P.funcs[n]? = some fn) (hname : (fn.name == "runtime.NumGoroutine") = false) (hb : fn.body = some c) (hl : strip P imp c = lc) (hr : fn.results.toList = rs) (hnt : fn.ntmps = nt)
    {args : List AV} (hargs : args.length ≤ nt) {H0 : AHeap} {r0 : AV} {H0' : AHeap}
    (h : lavc P G lc (args ++ List.replicate (nt - args.length) (.v undef)) H0 fun e t H => (e = .normal ∨ e = .ret) ∧ aret P t H rs fun r => r = r0 ∧ H = H0') :
    ACall P G false n args H0 r0 H0' := by
  subst hl hr hnt
  refine ⟨⟨fn, hf, hname, by rw [hb]; rfl⟩, fun σ w us hu ha rel => calls_of_wp hf hb ?_⟩
  have s : Sim G σ (args ++ List.replicate (fn.ntmps - args.length) (.v undef)) H0 { tmps := us ++ Array.replicate (fn.ntmps - us.size) undef, defers := [] } w := by
    refine ⟨rfl, by simp [hu], fun j hj => ?_, rel⟩
    simp only [List.length_append, List.length_replicate] at hj
    by_cases hja : j < args.length
    · have := ha j hja
      simpa [List.getD_eq_getElem?_getD, List.getElem?_append, Array.getElem?_append, hja, hu] using this
    · have e1 : (args ++ List.replicate (fn.ntmps - args.length) (AV.v undef)).getD j .any = .v undef := by
        rw [List.getD_eq_getElem?_getD, List.getElem?_append_right (by omega), List.getElem?_replicate, if_pos (by omega)]
        rfl
      have e2 : (us ++ Array.replicate (fn.ntmps - us.size) undef).getD j undef = undef := by
        rw [Array.getD_eq_getD_getElem?, Array.getElem?_append, if_neg (by omega), Array.getElem?_replicate, if_pos (by omega)]
        rfl
      rw [e1, e2]
      exact .v _
  refine Code.wp_mono (fun e a w' hq => ?_) (lavc_ok ctx.mix c _ H0 _ h σ H0 w σ _ w s (Ext.refl _ _ _))
  obtain ⟨t, H, σ', ⟨he, hr⟩, s', x⟩ := hq
  obtain ⟨r, u, ⟨rfl, rfl⟩, hrun, hru⟩ := aret_ok s' hr
  rcases he with rfl | rfl <;> exact ⟨s'.defers, u, hrun, u, rfl, σ', hru, s'.rel, x, fun h => by cases h⟩
theorem LCallK' (ctx : Ctx P G) {imp : FuncId → Bool} {n : FuncId} {fn : Func} {lc : LCode} {rs : List ResultVar} {nt : Nat} (hf : P.funcs[n]? = some fn) (hname : (fn.name == "runtime.NumGoroutine") = false) (hl : fn.body.map (strip P imp) = some lc) (hr : fn.results.toList = rs) (hnt : fn.ntmps = nt)
    {args : List AV} (hargs : args.length ≤ nt) {H0 : AHeap} {r0 : AV} {H0' : AHeap}
    (h : lavc P G lc (args ++ List.replicate (nt - args.length) (.v undef)) H0 fun e t H => (e = .normal ∨ e = .ret) ∧ aret P t H rs fun r => r = r0 ∧ H = H0') :
    ACall P G false n args H0 r0 H0' := by
  obtain ⟨c, hb, hl⟩ := Option.map_eq_some_iff.1 hl
  exact LCallK ctx hf hname hb hl hr hnt hargs h
theorem lops_step {q : Bool} {o : LOp} {rest : List LOp} {t : List AV} {H : AHeap} {K : List AV → AHeap → Prop}
    (h : ∀ K' : List AV → AHeap → Prop, (∀ t H, lops P G q rest t H K → K' t H) → lguard t o.g (aopO P G q (nxL rest) (aenv G t) H o.op fun r H' => K' (tput t o.d r) H') (K' (tput t o.d (.v undef)) H)) : lops P G q (o :: rest) t H K :=
  ⟨[], fun _ => rfl, h _ fun _ _ h => h⟩
theorem lopsN_step {o : LOp} {rest : List LOp} {t : List AV} {H : AHeap} {K : List AV → AHeap → Prop}
    (h : ∀ K' : List AV → AHeap → Prop, (∀ t H, lopsN P G rest t H K → K' t H) → lguard t o.g (aopO P G false (nxL rest) (aenv G t) H o.op fun r H' => K' (tput t o.d r) H') (K' (tput t o.d (.v undef)) H)) : lopsN P G (o :: rest) t H K := h _ fun _ _ h => h
theorem lopsN_nil {t : List AV} {H : AHeap} {K : List AV → AHeap → Prop} (h : K t H) : lopsN P G [] t H K := h
end Go.Abs
namespace Go.Abs
set_option linter.unusedVariables false
def zArr (k : IntKind) (n : Nat) : Value := .agg (List.replicate n (Value.int k 0)).toArray
@[go_sem] theorem zArr_cells (k : IntKind) (n : Nat) : (zArr k n).cells.toList.map AV.v = ints k (List.replicate n 0) := by
  simp [zArr, Value.cells, ints, List.map_replicate]
@[go_sem] theorem zArr_size (k : IntKind) (n : Nat) : (zArr k n).cells.size = n := by simp [zArr, Value.cells]
theorem NR.ints (k : IntKind) (l : List Int) : ∀ c ∈ ints k l, NR c := by
  intro c hc
  simp only [Go.Abs.ints, List.mem_map] at hc
  obtain ⟨n, _, rfl⟩ := hc
  exact .v _
def isRow : Option TypeDesc → Bool
  | some (.struct _) | some (.array _ _) => true
  | _ => false
def isFlat : Option TypeDesc → Bool
  | some (.struct _) | some (.array _ _) | none => false
  | _ => true
/-- No row: read as it is. -/
theorem rdP_flat {P : Program} {t : TypeId} (h : isFlat (P.underlying t) = true) (cs : List AV) (off : Nat) (K : AV → Prop) : rdP P t cs off K = (off < cs.length ∧ K (cs.getD off .any)) := by
  unfold rdP
  cases hd : P.underlying t with
  | none => simp [hd, isFlat] at h
  | some d => cases d <;> simp_all [isFlat]
/-- A row is read. -/
theorem rdP_row {P : Program} {t : TypeId} (h : isRow (P.underlying t) = true) (hs : (tsz P t).isSome = true) (cs : List AV) (off : Nat) (K : AV → Prop) : rdP P t cs off K = (off + (tsz P t).getD 0 ≤ cs.length ∧ K (.agg ((cs.drop off).take ((tsz P t).getD 0)))) := by
  obtain ⟨n, hn⟩ := Option.isSome_iff_exists.1 hs
  unfold rdP
  rw [hn]
  cases hd : P.underlying t with
  | none => simp [hd, isRow] at h
  | some d => cases d <;> simp_all [isRow]
theorem ints_take (k : IntKind) (l : List Int) (n : Nat) : (ints k l).take n = ints k (l.take n) := by simp [ints, List.map_take]
theorem ints_drop (k : IntKind) (l : List Int) (n : Nat) : (ints k l).drop n = ints k (l.drop n) := by simp [ints, List.map_drop]
theorem ints_append (k : IntKind) (l m : List Int) : ints k l ++ ints k m = ints k (l ++ m) := by simp [ints]
/-- A row is written whole. -/
theorem splice_all {cs c : List AV} (h : c.length = cs.length) : splice cs 0 c = c := by
  simp [splice, h]
theorem ints_one (k : IntKind) (l : List Int) : (ints k l).all AV.one = true := by
  simp [ints, AV.one, Value.oneCell']
variable {P : Program} {G : Glob} {t : List AV} {H : AHeap} {Q : APost}
theorem lops_nil {q : Bool} {K : List AV → AHeap → Prop} (h : K t H) : lops P G q [] t H K := h
theorem lavc_reg {pre post : List LOp} (h : lops P G true pre t H fun t' H' => lops P G false post t' H' (Q .normal)) : lavc P G (.reg pre post) t H Q := lavc_reg0 (lreg_go h)
def lputs : List AV → List LOp → List AV → List AV
  | t, o :: ls, v :: vs => lputs (tput t o.d v) ls vs
  | t, _, _ => t
theorem lputs_length : ∀ (t : List AV) (ls : List LOp) (vs : List AV), (lputs t ls vs).length = t.length
  | t, o :: ls, v :: vs => by rw [lputs, lputs_length, tput_length]
  | t, [], _ => by simp [lputs]
  | t, _ :: _, [] => by simp [lputs]
theorem lputs_same : ∀ (t : List AV) (ls : List LOp) (vs : List AV) (s : Nat), (∀ o ∈ ls, o.d ≠ some s) → (lputs t ls vs).getD s .any = t.getD s .any
  | t, o :: ls, v :: vs, s, h => by
    rw [lputs, lputs_same _ ls vs s (fun p hp => h p (List.mem_cons_of_mem _ hp))]
    have hd := h o (List.mem_cons_self ..)
    cases hod : o.d with
    | none => rfl
    | some d =>
      rw [hod] at hd
      have hne : d ≠ s := fun e => hd (by rw [e])
      simp only [tput, List.getD_eq_getElem?_getD]
      rw [List.getElem?_set_ne hne]
  | t, [], _, _, _ => by simp [lputs]
  | t, _ :: _, [], _, _ => by simp [lputs]
theorem lavc_lateq (vs : List AV) {ls pre mid post : List LOp} (hf : lfreesAt P G (lputs t ls vs) ls H)
    (h : lops P G true pre (lputs t ls vs) H fun t' H' => lopsF P G (lfreesAt P G (lputs t ls vs) ls) mid t' H' fun t' H' => lopsN P G post t' H' (Q .normal)) : lavc P G (.regl ls pre mid post) t H Q :=
  lavc_regq _ (lputs_length _ _ _) (lputs_same _ _ _) hf h
theorem lopsF_step {F : AHeap → Prop} {o : LOp} {rest : List LOp} {t : List AV} {H : AHeap} {K : List AV → AHeap → Prop} (hF : F H)
    (h : ∀ K' : List AV → AHeap → Prop, (∀ t H, lopsF P G F rest t H K → K' t H) → lguard t o.g (aopO P G false (nxL rest) (aenv G t) H o.op fun r H' => K' (tput t o.d r) H') (K' (tput t o.d (.v undef)) H)) : lopsF P G F (o :: rest) t H K :=
  ⟨hF, h _ fun _ _ h => h⟩
theorem lopsF_nil {F : AHeap → Prop} {t : List AV} {H : AHeap} {K : List AV → AHeap → Prop} (hF : F H) (h : K t H) : lopsF P G F [] t H K := ⟨hF, h⟩
theorem i64n (n : Int) (m : Nat) (h : n = m) (hm : m ≤ 9223372036854775807) : IntKind.i64.wrap n = m := by rw [IntKind.wrap_i64]; omega
theorem i64z (n : Int) (h : -9223372036854775808 ≤ n ∧ n ≤ 9223372036854775807) : IntKind.i64.wrap n = n := by rw [IntKind.wrap_i64]; omega
def blank (t : List AV) (ms : List Nat) : List AV := ms.foldl (fun t i => t.set i .any) t
def putAll (t : List AV) (l : List (Nat × AV)) : List AV := l.foldl (fun t p => t.set p.1 p.2) t
/-- A loop; ms: what its rounds turn; live: what of that is known at a round's begin. -/
theorem lavc_loopM {c : LCode} (ms : List Nat) {X : Type} (I : Nat → X → Prop) (live : X → List (Nat × AV)) (hp : X → AHeap) (n0 : Nat) (x0 : X) (h0 : I n0 x0) (ht : ALe t (putAll (blank t ms) (live x0))) (hh : H = hp x0)
    (h : ∀ n x, I n x → lavc P G c (putAll (blank t ms) (live x)) (hp x) fun e t' H' => match e with
      | .normal => ∃ n' x', n' < n ∧ I n' x' ∧ ALe t' (putAll (blank t ms) (live x')) ∧ H' = hp x'
      | e => Q e t' H') : lavc P G (.loop c) t H Q := lavc_loop0 I _ hp n0 x0 [] [] ⟨h0, ht, hh⟩ h
/-- Ways that meet again; ms: what they turn; live: what of that is known where they meet. -/
theorem lavc_join {a : LCode} (ms : List Nat) {X : Type} (I : X → Prop) (live : X → List (Nat × AV)) (hp : X → AHeap)
    (h1 : lavc P G a t H fun e t' H' => match e with
      | .normal => ∃ x, I x ∧ ALe t' (putAll (blank t ms) (live x)) ∧ H' = hp x
      | e => Q e t' H') {b : LCode} (h2 : ∀ x, I x → lavc P G b (putAll (blank t ms) (live x)) (hp x) Q) : lavc P G a t H fun e t' H' => match e with
      | .normal => lavc P G b t' H' Q
      | e => Q e t' H' := lavc_mono h1 fun e t' H' h => by
  cases e with
  | normal =>
    obtain ⟨x, hx, hle, rfl⟩ := h
    exact lavc_weak (h2 x hx) hle
  | _ => exact h
theorem shrI_le (k : IntKind) (x n : Int) (h : n.toNat ≤ k.bits) : shrI k x n = x / 2 ^ n.toNat := by
  rw [shrI, Nat.min_eq_left h, Int.fdiv_eq_ediv_of_nonneg]
  exact Int.le_of_lt (Int.pow_pos (by decide))
theorem PCall.go {n : FuncId} {args : List AV} {r : AV} (h : PCall P G n args r) (H : AHeap) : ACall P G true n args H r H := h H
theorem MCall.go {n : FuncId} {args : List AV} {k k' : Blk} {r : AV} (h : MCall P G n args k r k') (H : AHeap) (b : Nat) (hb : H[b]? = some k) : ACall P G false n (.ptr b k.ver 0 :: args) H r (H.set b k') := h H b hb
theorem NCall.go {n : FuncId} {args : List AV} {e : TypeId} {len cap sz : Nat} {x : Bool} {cs : List AV} (h : NCall P G n args e len cap sz x cs) (H : AHeap) : ACall P G true n args H (.sl H.length 0 0 len cap sz x) (H ++ [⟨cs, 0, true, e⟩]) := h H
theorem rep_ints (k : IntKind) (n : Nat) : List.replicate n (AV.v (Value.int k 0)) = ints k (List.replicate n 0) := by simp [ints]
theorem splice_intsR (k : IntKind) (l m : List Int) (off : Nat) : splice (ints k l) off (ints k m) = ints k (l.take off ++ m ++ l.drop (off + m.length)) := by simp [splice, ints]
theorem splice_one {cs : List AV} {off : Nat} {v : AV} (h : off < cs.length) : splice cs off [v] = cs.set off v := by
  apply List.ext_getElem?
  intro j
  rw [splice_get (by simp; omega)]
  simp only [List.length_singleton, List.getElem?_set]
  by_cases hj : off = j
  · subst hj
    simp [h]
  · rw [if_neg (by omega), if_neg hj]
theorem ints_set (k : IntKind) (l : List Int) (off : Nat) (x : Int) : (ints k l).set off (.v (.int k x)) = ints k (l.set off x) := by simp [ints, List.map_set]
theorem rep_slice (n : Nat) (A : Option Addr) (a b : Nat) : List.replicate (n + 1) (AV.v (.slice A a b)) = AV.v (.slice A a b) :: List.replicate n (AV.v (.slice A a b)) := rfl
theorem rep_string (n : Nat) (s : ByteArray) : List.replicate (n + 1) (AV.v (.string s)) = AV.v (.string s) :: List.replicate n (AV.v (.string s)) := rfl
theorem rep_bool (n : Nat) (s : Bool) : List.replicate (n + 1) (AV.v (.bool s)) = AV.v (.bool s) :: List.replicate n (AV.v (.bool s)) := rfl
theorem rep_iface (n : Nat) : List.replicate (n + 1) (AV.v .nilIface) = AV.v .nilIface :: List.replicate n (AV.v .nilIface) := rfl
theorem fz_ints (b : Nat) (k : Blk) (i : IntKind) (l : List Int) : (ints i l).map (fzS b k) = ints i l := by simp [ints, fzS]
theorem Flat.ints (k : IntKind) (l : List Int) : ∀ c ∈ ints k l, Flat c := by
  intro c hc
  simp only [Go.Abs.ints, List.mem_map] at hc
  obtain ⟨n, _, rfl⟩ := hc
  exact .v _
/-- An owned row may be looked at by what it holds. -/
theorem NCall.view {n : FuncId} {args : List AV} {e : TypeId} {len cap sz : Nat} {x : Bool} {cs : List AV} (hG : GN G) (h : NCall P G n args e len cap sz x cs) (hargs : ∀ a ∈ args, NR a) (hcs : ∀ c ∈ cs, NR c) (hc : len ≤ cap) (hf : len * sz ≤ cs.length) : PCall P G n args (.vsl len (cs.take (len * sz)) none) := by
  refine PCall.of hG hargs (NR.vsl fun c hc => hcs c (List.mem_of_mem_take hc)) ⟨(h []).1, fun σ w us h1 h2 rel => ((h []).2 σ w us h1 h2 rel).mono fun e' w' ⟨u, he, σ', a1, a2, a3, _⟩ => ⟨u, he, ?_⟩⟩
  have := Res.cut hG rel a2 a3 (lo := 0) (Nat.le_refl _) (Nat.zero_le _) (rv := .sl 0 0 0 len cap sz x) (r' := .vsl len (cs.take (len * sz)) none) (View.sl (k := ⟨cs, 0, true, e⟩) (Nat.zero_le _) rfl rfl rfl hc (by simpa using hf) hcs) a1 (fun b k hb => absurd hb (Nat.not_lt_zero _))
  simpa using this
/-- A call's end. -/
def Fin (lo : Nat) (H : AHeap) (r r0 : AV) (H0' : AHeap) : Prop := View lo H r r0 ∧ lo ≤ H.length ∧ (∀ (b : Nat) (k : Blk), b < lo → H[b]? = some k → ∀ c ∈ k.cells, NR c) ∧ H.take lo = H0'
theorem end0 {r r0 : AV} (hr : NR r0) (h : r = r0) : Fin 0 H r r0 [] :=
  ⟨h ▸ .nr (h ▸ hr), Nat.zero_le _, fun b k hb => absurd hb (Nat.not_lt_zero _), List.take_zero⟩
theorem end1 {r r0 : AV} {k k' : Blk} (hr : NR r0) (h : r = r0) (hn : ∀ c ∈ k'.cells, NR c) (hk : k = k') : Fin 1 (k :: H) r r0 [k'] := by
  subst hk
  refine ⟨h ▸ .nr (h ▸ hr), by simp, fun b k1 hb h1 => ?_, rfl⟩
  have : b = 0 := by omega
  subst this
  cases h1
  exact hn
theorem NR.tup0 : NR (.tup []) := NR.tup (by simp)
theorem set_concat {α : Type} (l : List α) (a b : α) : (l ++ [a]).set l.length b = l ++ [b] := by
  simp
theorem get_concat {α : Type} (l : List α) (a : α) : (l ++ [a])[l.length]? = some a := by simp
theorem view2 {lo : Nat} {a b a' b' : AV} (h1 : View lo H a a') (h2 : View lo H b b') : View lo H (.tup [a, b]) (.tup [a', b']) := by
  refine .tup rfl (fun j hj => ?_)
  match j, hj with
  | 0, _ => exact h1
  | 1, _ => exact h2
theorem endV {r r0 : AV} (h : View 0 H r r0) : Fin 0 H r r0 [] := ⟨h, Nat.zero_le _, fun b k hb => absurd hb (Nat.not_lt_zero _), List.take_zero⟩
/-- A block, looked at otherwise. -/
theorem Rel.look {σ : Sig} {w : World} (r : Rel G σ H w) {b : Nat} {k : Blk} (hk : H[b]? = some k) (cs : List AV) (hl : cs.length = k.cells.length) (h : ∀ j u, j < cs.length → AR σ w (k.cells.getD j .any) u → AR σ w (cs.getD j .any) u) :
    Rel G σ (H.set b { k with cells := cs }) w ∧ Ext σ H w σ (H.set b { k with cells := cs }) w := by
  have hlt : b < H.length := (List.getElem?_eq_some_iff.1 hk).1
  have hget : ∀ (b' : Nat) (k' : Blk), (H.set b { k with cells := cs })[b']? = some k' → H[b']? = some k' ∨ (b' = b ∧ k' = { k with cells := cs }) := by
    intro b' k' h
    rw [List.getElem?_set] at h
    split at h
    · rename_i e
      subst e
      try rw [if_pos hlt] at h
      exact .inr ⟨rfl, (Option.some.inj h).symm⟩
    · exact .inl h
  have hold : ∀ (b' : Nat) (k' : Blk), (H.set b { k with cells := cs })[b']? = some k' → ∃ k0, H[b']? = some k0 ∧ k0.live = k'.live ∧ k0.ver = k'.ver := by
    intro b' k' h
    rcases hget b' k' h with h | ⟨rfl, rfl⟩
    · exact ⟨k', h, rfl, rfl⟩
    · exact ⟨k, hk, rfl, rfl⟩
  refine ⟨⟨?_, ?_, ?_, r.roLt, ?_, r.glob, r.base0⟩, ⟨rfl, rfl, rfl, Nat.le_refl _, fun _ _ _ h => h, fun _ h => h, fun _ _ _ => rfl, fun _ _ _ h => .inl h, ?_, fun B h => .inl h, by simp⟩⟩
  · intro b' k' l h1 h2 h3
    rcases hget b' k' h1 with h4 | ⟨rfl, rfl⟩
    · exact r.blk b' k' l h4 h2 h3
    · obtain ⟨C, fr, c1, c2, c3, c4, c5⟩ := r.blk b' k l hk h2 h3
      refine ⟨C, fr, c1, c2, by rw [hl]; exact c3, c4, fun j hj => ?_⟩
      obtain ⟨u, d1, d2⟩ := c5 j (hl ▸ hj)
      exact ⟨u, d1, h j u hj d2⟩
  · intro b1 b2 k1 k2 l1 l2 h1 h2 h3 g1 g2 g3 e
    obtain ⟨k1', a1, a2, a3⟩ := hold _ _ h1
    obtain ⟨k2', c1, c2, c3⟩ := hold _ _ g1
    exact r.inj b1 b2 k1' k2' l1 l2 a1 (a2.trans h2) (by rw [a3]; exact h3) c1 (c2.trans g2) (by rw [c3]; exact g3) e
  · intro b' k' l h1 h2 h3
    obtain ⟨k0, a1, a2, a3⟩ := hold _ _ h1
    exact r.apart b' k0 l a1 (a2.trans h2) (by rw [a3]; exact h3)
  · intro b' ver l h1
    obtain ⟨k0, a1, a2⟩ := r.fresh b' ver l h1
    by_cases e : b' = b
    · subst e
      rw [hk] at a1
      cases a1
      exact ⟨_, List.getElem?_set_self hlt, a2⟩
    · exact ⟨k0, by rw [List.getElem?_set_ne (fun e' => e e'.symm)]; exact a1, a2⟩
  · intro b' k' l h1 h2 h3
    obtain ⟨k0, a1, a2, a3⟩ := hold _ _ h1
    exact ⟨k0, a1, a2.trans h2, a3⟩
/-- A builder that was made just now. -/
theorem lavc_bld (b : Nat) (e : TypeId) {c : LCode} {k : Blk} (hk : H[b]? = some k) (hc : k.cells = [.v (.pointer none), .v (.slice none 0 0)]) (h : lavc P G c t (H.set b ⟨[.bad b k.ver, .bsl H.length 0 0], k.ver, k.live, k.elem⟩ ++ [⟨ints .u8 [], 0, true, e⟩]) Q) : lavc P G c t H Q := fun imp c0 hc0 hm ro nn σ0 H0 w0 σ a w s x => by
  obtain ⟨r1, x1⟩ := s.rel.look hk [.bad b k.ver, .bsl H.length 0 0] (by rw [hc]; rfl) (fun j u hj hu => by
    rw [hc] at hu
    match j, hj with
    | 0, _ =>
      simp only [List.getD_cons_zero] at hu ⊢
      cases hu
      exact .bad0
    | 1, _ =>
      simp only [List.getD_cons_zero, List.getD_cons_succ] at hu ⊢
      cases hu
      exact .bsl0)
  obtain ⟨r2, x2⟩ := r1.ghost ⟨ints .u8 [], 0, true, e⟩
  exact h imp c0 hc0 hm ro nn σ0 H0 w0 σ a w ⟨s.defers, s.size, s.tmps, r2⟩ (x.trans (x1.trans x2))
/-- A loop, round by round. -/
def lavcR (P : Program) (G : Glob) (c : LCode) (Q : APost) : Nat → List AV → AHeap → Prop
  | 0, _, _ => False
  | n + 1, t, H => lavc P G c t H fun e t' H' => match e with
    | .normal => lavcR P G c Q n t' H'
    | e => Q e t' H'
theorem lavcR_round {c : LCode} {n : Nat} (h : lavc P G c t H fun e t' H' => match e with
    | .normal => lavcR P G c Q n t' H'
    | e => Q e t' H') : lavcR P G c Q (n + 1) t H := h
theorem lavc_rounds (n : Nat) {c : LCode} (h : lavcR P G c Q n t H) : lavc P G (.loop c) t H Q := fun imp c0 hc hm ro nn σ0 H0 w0 σ a w s x => by
  cases c0 with
  | loop c' =>
    simp only [strip, LCode.loop.injEq] at hc
    have key : ∀ (n : Nat) (t : List AV) (H : AHeap) (σ : Sig) (a : Act) (w : World), lavcR P G c Q n t H → Sim G σ t H a w → Ext σ0 H0 w0 σ H w → Code.roundsIn (wr ro) nn P c' (CPost G σ0 H0 w0 Q) n a w := by
      intro n
      induction n with
      | zero => exact fun t H σ a w h _ _ => h.elim
      | succ n ih =>
        intro t H σ a w h s x
        refine Code.wpIn_mono (fun e a2 w2 hq => ?_) (h imp c' hc hm ro nn σ0 H0 w0 σ a w s x)
        obtain ⟨t2, H2, σ2, k1, k2, k3⟩ := hq
        cases e with
        | normal => exact ih _ _ _ _ _ k1 k2 k3
        | _ => exact ⟨t2, H2, σ2, k1, k2, k3⟩
    exact wpIn_loop_rounds n (key n t H σ a w h s x)
  | region id ops draw => rcases no_reg hc with ⟨_, _, e⟩ | ⟨_, _, _, _, e⟩ | e <;> cases e
  | _ => simp only [strip, reduceCtorEq] at hc
/-- Side conditions: their proofs are looked for where they are used. -/
theorem dch {p : Prop} (h : p := by first | omega | (simp only [go_sem, isRow, isFlat, Option.isSome_some]; done) | assumption | (simp only [ints_length, List.length_replicate, List.length_set, List.length_append, List.length_take, List.length_drop, List.length_cons, List.length_nil] <;> omega) | fail) : p := h
theorem acl {p : Prop} (h : p := by first | omega | rfl | assumption | decide) : p := h
theorem nrs {l : List AV} (h : ∀ c ∈ l, NR c := by (repeat (refine List.forall_mem_cons.2 (And.intro (by first | exact NR.v _ | exact NR.agg (NR.ints _ _) | exact NR.vsl (NR.ints _ _) | exact NR.vptr (NR.ints _ _) | assumption) ?_))); exact fun _ h => absurd h List.not_mem_nil) : ∀ c ∈ l, NR c := h
/-- Operations, in short. -/
def o1 (d : Nat) (x : Op) : LOp := ⟨some d, x, none⟩
def o2 (d : Nat) (x : Op) (g : Nat) (b : Bool) : LOp := ⟨some d, x, some (g, b)⟩
def o3 (x : Op) : LOp := ⟨none, x, none⟩
def o4 (x : Op) (g : Nat) (b : Bool) : LOp := ⟨none, x, some (g, b)⟩
@[go_sem] theorem o1_d (d : Nat) (x : Op) : (o1 d x).d = some d := rfl
@[go_sem] theorem o1_op (d : Nat) (x : Op) : (o1 d x).op = x := rfl
@[go_sem] theorem o1_g (d : Nat) (x : Op) : (o1 d x).g = none := rfl
@[go_sem] theorem o2_d (d : Nat) (x : Op) (g : Nat) (b : Bool) : (o2 d x g b).d = some d := rfl
@[go_sem] theorem o2_op (d : Nat) (x : Op) (g : Nat) (b : Bool) : (o2 d x g b).op = x := rfl
@[go_sem] theorem o2_g (d : Nat) (x : Op) (g : Nat) (b : Bool) : (o2 d x g b).g = some (g, b) := rfl
@[go_sem] theorem o3_d (x : Op) : (o3 x).d = none := rfl
@[go_sem] theorem o3_op (x : Op) : (o3 x).op = x := rfl
@[go_sem] theorem o3_g (x : Op) : (o3 x).g = none := rfl
@[go_sem] theorem o4_d (x : Op) (g : Nat) (b : Bool) : (o4 x g b).d = none := rfl
@[go_sem] theorem o4_op (x : Op) (g : Nat) (b : Bool) : (o4 x g b).op = x := rfl
@[go_sem] theorem o4_g (x : Op) (g : Nat) (b : Bool) : (o4 x g b).g = some (g, b) := rfl
def isCv : Op → Bool
  | .convert _ _ _ => true
  | _ => false
@[go_sem] theorem nxL_nil : nxL [] = false := rfl
@[go_sem] theorem nxL_o1 (d : Nat) (x : Op) (r : List LOp) : nxL (o1 d x :: r) = isCv x := by cases x <;> rfl
@[go_sem] theorem nxL_o2 (d : Nat) (x : Op) (g : Nat) (b : Bool) (r : List LOp) : nxL (o2 d x g b :: r) = isCv x := by cases x <;> rfl
@[go_sem] theorem nxL_o3 (x : Op) (r : List LOp) : nxL (o3 x :: r) = isCv x := by cases x <;> rfl
@[go_sem] theorem nxL_o4 (x : Op) (g : Nat) (b : Bool) (r : List LOp) : nxL (o4 x g b :: r) = isCv x := by cases x <;> rfl
@[go_sem] theorem cv_move (x : Operand) : isCv (.move x) = false := rfl
@[go_sem] theorem cv_assign (x : Operand) : isCv (.assign x) = false := rfl
@[go_sem] theorem cv_pick (c a b : Operand) : isCv (.pick c a b) = false := rfl
@[go_sem] theorem cv_alloc (elem : TypeId) : isCv (.alloc elem) = false := rfl
@[go_sem] theorem cv_box (elem : TypeId) (v : Operand) : isCv (.box elem v) = false := rfl
@[go_sem] theorem cv_build (t : TypeId) (parts : Array (Nat × Operand)) : isCv (.build t parts) = false := rfl
@[go_sem] theorem cv_buildSlice (t : TypeId) (len : Nat) (parts : Array (Nat × Operand)) : isCv (.buildSlice t len parts) = false := rfl
@[go_sem] theorem cv_load (t : TypeId) (addr : Operand) : isCv (.load t addr) = false := rfl
@[go_sem] theorem cv_store (t : TypeId) (addr val : Operand) : isCv (.store t addr val) = false := rfl
@[go_sem] theorem cv_nilCheck (x : Operand) : isCv (.nilCheck x) = false := rfl
@[go_sem] theorem cv_binOp (op : BinOp) (xType : TypeId) (x y : Operand) (yType : TypeId) : isCv (.binOp op xType x y yType) = false := rfl
@[go_sem] theorem cv_unOp (op : UnOp) (xType : TypeId) (x : Operand) : isCv (.unOp op xType x) = false := rfl
@[go_sem] theorem cv_convert (src dst : TypeId) (x : Operand) : isCv (.convert src dst x) = true := rfl
@[go_sem] theorem cv_makeInterface (xType : TypeId) (x : Operand) : isCv (.makeInterface xType x) = false := rfl
@[go_sem] theorem cv_makeFunc (fn : Fn) (first captured : Array Operand) : isCv (.makeFunc fn first captured) = false := rfl
@[go_sem] theorem cv_makeSlice (t : TypeId) (len cap : Operand) : isCv (.makeSlice t len cap) = false := rfl
@[go_sem] theorem cv_slice (xType : TypeId) (x : Operand) (low high max : Option Operand) : isCv (.slice xType x low high max) = false := rfl
@[go_sem] theorem cv_fieldAddr (xType : TypeId) (x : Operand) (field : Nat) : isCv (.fieldAddr xType x field) = false := rfl
@[go_sem] theorem cv_field (xType : TypeId) (x : Operand) (field : Nat) : isCv (.field xType x field) = false := rfl
@[go_sem] theorem cv_indexAddr (xType : TypeId) (x index : Operand) : isCv (.indexAddr xType x index) = false := rfl
@[go_sem] theorem cv_index (xType : TypeId) (x index : Operand) : isCv (.index xType x index) = false := rfl
@[go_sem] theorem cv_extract (tuple : Operand) (index : Nat) : isCv (.extract tuple index) = false := rfl
@[go_sem] theorem cv_call (c : Call) : isCv (.call c) = false := rfl
@[go_sem] theorem cv_range (xType : TypeId) (x : Operand) : isCv (.range xType x) = false := rfl
@[go_sem] theorem cv_next (iter : Operand) (isString : Bool) : isCv (.next iter isString) = false := rfl
@[go_sem] theorem cv_typeAssert (x : Operand) (xType asserted : TypeId) (commaOk : Bool) : isCv (.typeAssert x xType asserted commaOk) = false := rfl
/-- What is still to be shown. -/
structure Go1 (p : Prop) : Prop where
  out : p
theorem an {a b : Prop} (x : a) (y : b) : a ∧ b := ⟨x, y⟩
theorem tt : True := trivial
/-- What may be done. -/
theorem gd {p : Prop} (_ : True) (x : p) : p := x
theorem F1 : 0 = 0 ∧ 0 = 0 ∧ True ∧ True ∧ True := ⟨rfl, rfl, trivial, trivial, trivial⟩
theorem F2 : 0 = 0 ∧ 0 = 0 ∧ True ∧ 0 = 0 ∧ True := ⟨rfl, rfl, trivial, rfl, trivial⟩
theorem F3 : 0 = 0 ∧ True ∧ 0 = 0 ∧ True ∧ True := ⟨rfl, trivial, rfl, trivial, trivial⟩
theorem F4 : True ∧ 0 = 0 ∧ True ∧ True ∧ True := ⟨trivial, rfl, trivial, trivial, trivial⟩
theorem F5 : True ∧ True ∧ 0 = 0 ∧ True ∧ True := ⟨trivial, trivial, rfl, trivial, trivial⟩
theorem F6 : 0 = 0 ∧ 0 = 0 ∧ True ∧ 0 = 0 ∧ 0 = 0 := ⟨rfl, rfl, trivial, rfl, rfl⟩
theorem F7 : True ∧ 0 = 0 ∧ True ∧ 0 = 0 ∧ 0 = 0 := ⟨trivial, rfl, trivial, rfl, rfl⟩
/-- Steps, as long as nothing is to be chosen. -/
theorem G1 {p g F L C D E : Prop} (f : F) (l : L) (c : C) (d : D) (e : E) (q : Go1 g) (h : F → L → C → D → E → Go1 g → p := by
  intro f l c d e q
  repeat (first
    | (with_reducible (first | refine lops_step fun K hK => ?_ | refine lopsN_step fun K hK => ?_); simp (disch := first | exact dch | fail) only [go_sem, Nat.reduceAdd, Nat.reduceSub, reduceIte, Nat.reduceEqDiff, Int.reduceToNat, Int.reduceBEq, Int.reduceBNe, l]; (try (refine gd f.1 ?_; first | (refine And.intro (fun _ => ?_) (fun h => absurd h (by decide))) | (refine And.intro (fun h => absurd h (by decide)) (fun _ => ?_)))); (repeat (with_reducible refine And.intro acl ?_)); (first | (refine hK _ _ ?_) | (refine ⟨_, rfl, hK _ _ ?_⟩) | (refine gd f.2.2.1 (Or.inl (hK _ _ ?_))) | (refine gd f.2.1 (Or.inr (hK _ _ ?_))) | (refine gd f.2.1 (Or.inr ⟨rfl, hK _ _ ?_⟩)) | ((first | refine ⟨_, _, Or.inl (c.1 _), ?_⟩ | refine ⟨_, _, Or.inl (c.2.1 _), ?_⟩ | refine ⟨_, _, Or.inl (c.2.2.1 _), ?_⟩ | refine ⟨_, _, Or.inl (c.2.2.2.1 _), ?_⟩ | refine ⟨_, _, Or.inl (c.2.2.2.2.1 _), ?_⟩ | refine ⟨_, _, Or.inl (c.2.2.2.2.2.1 _), ?_⟩ | refine ⟨_, _, Or.inl (c.2.2.2.2.2.2.1 _), ?_⟩ | refine ⟨_, _, Or.inl (c.2.2.2.2.2.2.2.1 _), ?_⟩ | refine ⟨_, _, Or.inl (d.1 _ _), ?_⟩ | refine ⟨_, _, Or.inl (d.1 _ _ rfl), ?_⟩ | refine ⟨_, _, Or.inl (d.1 _ _ _), ?_⟩ | refine ⟨_, _, Or.inl (d.1 _ _ _ _), ?_⟩ | refine ⟨_, _, Or.inl (d.2.1 _ _), ?_⟩ | refine ⟨_, _, Or.inl (d.2.1 _ _ rfl), ?_⟩ | refine ⟨_, _, Or.inl (d.2.1 _ _ _), ?_⟩ | refine ⟨_, _, Or.inl (d.2.1 _ _ _ _), ?_⟩ | refine ⟨_, _, Or.inl (d.2.2.1 _ _), ?_⟩ | refine ⟨_, _, Or.inl (d.2.2.1 _ _ rfl), ?_⟩ | refine ⟨_, _, Or.inl (d.2.2.1 _ _ _), ?_⟩ | refine ⟨_, _, Or.inl (d.2.2.1 _ _ _ _), ?_⟩ | refine ⟨_, _, Or.inl (d.2.2.2.1 _ _), ?_⟩ | refine ⟨_, _, Or.inl (d.2.2.2.1 _ _ rfl), ?_⟩ | refine ⟨_, _, Or.inl (d.2.2.2.1 _ _ _), ?_⟩ | refine ⟨_, _, Or.inl (d.2.2.2.1 _ _ _ _), ?_⟩); (first | refine ⟨by first | exact ⟨[], (List.append_nil _).symm⟩ | exact ⟨_, rfl⟩, hK _ _ ?_⟩ | refine hK _ _ ?_)) | ((first | refine ⟨_, _, Or.inl (c.1 _).weakQ, ?_⟩ | refine ⟨_, _, Or.inl (c.2.1 _).weakQ, ?_⟩ | refine ⟨_, _, Or.inl (c.2.2.1 _).weakQ, ?_⟩ | refine ⟨_, _, Or.inl (c.2.2.2.1 _).weakQ, ?_⟩ | refine ⟨_, _, Or.inl (c.2.2.2.2.1 _).weakQ, ?_⟩ | refine ⟨_, _, Or.inl (c.2.2.2.2.2.1 _).weakQ, ?_⟩ | refine ⟨_, _, Or.inl (c.2.2.2.2.2.2.1 _).weakQ, ?_⟩ | refine ⟨_, _, Or.inl (c.2.2.2.2.2.2.2.1 _).weakQ, ?_⟩ | refine ⟨_, _, Or.inl (d.1 _ _).weakQ, ?_⟩ | refine ⟨_, _, Or.inl (d.1 _ _ rfl).weakQ, ?_⟩ | refine ⟨_, _, Or.inl (d.1 _ _ _).weakQ, ?_⟩ | refine ⟨_, _, Or.inl (d.1 _ _ _ _).weakQ, ?_⟩ | refine ⟨_, _, Or.inl (d.2.1 _ _).weakQ, ?_⟩ | refine ⟨_, _, Or.inl (d.2.1 _ _ rfl).weakQ, ?_⟩ | refine ⟨_, _, Or.inl (d.2.1 _ _ _).weakQ, ?_⟩ | refine ⟨_, _, Or.inl (d.2.1 _ _ _ _).weakQ, ?_⟩ | refine ⟨_, _, Or.inl (d.2.2.1 _ _).weakQ, ?_⟩ | refine ⟨_, _, Or.inl (d.2.2.1 _ _ rfl).weakQ, ?_⟩ | refine ⟨_, _, Or.inl (d.2.2.1 _ _ _).weakQ, ?_⟩ | refine ⟨_, _, Or.inl (d.2.2.1 _ _ _ _).weakQ, ?_⟩ | refine ⟨_, _, Or.inl (d.2.2.2.1 _ _).weakQ, ?_⟩ | refine ⟨_, _, Or.inl (d.2.2.2.1 _ _ rfl).weakQ, ?_⟩ | refine ⟨_, _, Or.inl (d.2.2.2.1 _ _ _).weakQ, ?_⟩ | refine ⟨_, _, Or.inl (d.2.2.2.1 _ _ _ _).weakQ, ?_⟩); refine hK _ _ ?_) | ((first | refine ⟨_, _, Or.inr ⟨e.1 _, rfl⟩, ?_⟩ | refine ⟨_, _, Or.inr ⟨e.2.1 _, rfl⟩, ?_⟩); (first | refine ⟨by first | exact ⟨[], (List.append_nil _).symm⟩ | exact ⟨_, rfl⟩, hK _ _ ?_⟩ | refine hK _ _ ?_))); clear hK K)
    | (with_reducible first | refine lops_nil ?_ | refine lopsN_nil ?_ | refine lavc_skip ?_ | refine gd f.2.2.2.1 (lavc_reg ?_))
    | (with_reducible first | refine gd f.2.2.2.2 (lavc_seq ?_) | refine gd f.2.2.2.2 (lavc_block ?_) | refine gd f.2.2.2.2 (lavc_exit ?_) | refine gd f.2.2.2.2 (lavc_ret ?_) | refine gd f.2.2.2.2 (lavcR_round ?_))
    | (refine gd f.1 (lavc_cond rfl (fun _ => ?_) (fun hc => absurd hc (by decide))))
    | (refine gd f.1 (lavc_cond rfl (fun hc => absurd hc (by decide)) (fun _ => ?_)))
    | (simp only [↓reduceIte, Nat.reduceEqDiff, reduceCtorEq]))
  exact q.out) : p := h f l c d e q
/-- What is returned. -/
theorem R1 {p g L : Prop} (l : L) (q : Go1 g) (h : L → Go1 g → p := by
  intro l q
  refine And.intro (by simp) ?_
  simp (disch := first | exact dch | fail) only [go_sem, Nat.reduceAdd, Nat.reduceSub, reduceIte, Nat.reduceEqDiff, Int.reduceToNat, Int.reduceBEq, Int.reduceBNe, aret, aretL, aret1, aenv, l]
  (repeat (with_reducible refine And.intro acl ?_))
  exact q.out) : p := h l q
/-- A function's beginning. -/
theorem I1 {p g L : Prop} (l : L) (q : Go1 g) (h : L → Go1 g → p := by
  intro l q
  simp only [List.length_cons, List.length_nil, Nat.reduceAdd, Nat.reduceSub, List.replicate_succ, List.replicate_zero, List.cons_append, List.nil_append, l]
  exact q.out) : p := h l q
/-- A round's beginning. -/
theorem M1 {p g L : Prop} (l : L) (q : Go1 g) (h : L → Go1 g → p := by
  intro l q
  simp only [putAll, blank, List.foldl_cons, List.foldl_nil, List.foldl_append, List.set_cons_succ, List.set_cons_zero, List.cons_append, List.nil_append, l]
  exact q.out) : p := h l q
/-- A round's end. -/
theorem A0 {L : Prop} {a b : List AV} (l : L) (h : L → ALe0 a b := by intro l; simp only [putAll, blank, List.foldl_cons, List.foldl_nil, List.foldl_append, List.set_cons_succ, List.set_cons_zero, List.cons_append, List.nil_append, ALe0, true_or, or_true, and_true, true_and, eq_self, reduceCtorEq, false_or, l]) : ALe a b := ⟨h l⟩
theorem A1 {g L : Prop} {a b : List AV} (l : L) (q : Go1 g) (h : L → Go1 g → ALe0 a b := by intro l q; simp only [putAll, blank, List.foldl_cons, List.foldl_nil, List.foldl_append, List.set_cons_succ, List.set_cons_zero, List.cons_append, List.nil_append, ALe0, true_or, or_true, and_true, true_and, eq_self, reduceCtorEq, false_or, l]; exact q.out) : ALe a b := ⟨h l q⟩
/-- A condition, its two ways. -/
theorem cnd {P : Program} {G : Glob} {t : List AV} {H : AHeap} {Q : APost} {c : Operand} {a b : LCode} {x : Bool} {p1 p2 : Prop} (hx : aenv G t c = .v (.bool x)) (h1 : p1 → lavc P G a t H Q) (h2 : p2 → lavc P G b t H Q)
    (e1 : (x = true) = p1 := by (conv => lhs; try simp only [decide_eq_true_eq, decide_eq_false_iff_not, Int.not_lt, Int.not_le, beq_iff_eq, bne_iff_ne, bne_eq_false_iff_eq, beq_eq_false_iff_ne, ne_eq, Bool.not_eq_true', Bool.not_eq_false']) <;> rfl) (e2 : (x = false) = p2 := by (conv => lhs; try simp only [decide_eq_true_eq, decide_eq_false_iff_not, Int.not_lt, Int.not_le, beq_iff_eq, bne_iff_ne, bne_eq_false_iff_eq, beq_eq_false_iff_ne, ne_eq, Bool.not_eq_true', Bool.not_eq_false']) <;> rfl) : lavc P G (.cond c a b) t H Q :=
  lavc_cond hx (fun h => h1 (e1 ▸ h)) (fun h => h2 (e2 ▸ h))
end Go.Abs
