/- A row of operations that may come up in whatever order its edges allow: those that turn nothing first, in any order; the rest behind them, in theirs. -/
import Derived.Test.YtgmchiadphdlhaaDoorAbsSeq
namespace Go.Abs
set_option linter.unusedVariables false
set_option linter.unusedSimpArgs false
variable {P : Program} {G : Glob} {σ : Sig} {H : AHeap} {w : World}
/-! ### What comes ahead of what -/
def mask (o : Oper) (acc : List Nat) : Nat := o.after.toList.foldl (fun s e => if Region.binds .any e then s ||| (2 ^ e.on ||| acc.getD e.on 0) else s) 0
def befL : List Oper → List Nat → List Nat
  | [], acc => acc
  | o :: rest, acc => befL rest (acc ++ [mask o acc])
def befs (ops : Array Oper) (k : Nat) : Nat := (befL ops.toList []).getD k 0
theorem mask_bit (acc : List Nat) (j : Nat) : ∀ (l : List Edge) (s : Nat), (l.foldl (fun s e => if Region.binds .any e then s ||| (2 ^ e.on ||| acc.getD e.on 0) else s) s).testBit j = true →
    s.testBit j = true ∨ ∃ e ∈ l, Region.binds .any e = true ∧ (e.on = j ∨ (acc.getD e.on 0).testBit j = true)
  | [], s, h => .inl h
  | e :: l, s, h => by
    rw [List.foldl_cons] at h
    rcases mask_bit acc j l _ h with h1 | ⟨e', h1, h2⟩
    · split at h1
      · rename_i hb
        rw [Nat.testBit_or, Nat.testBit_or, Bool.or_eq_true, Bool.or_eq_true] at h1
        rcases h1 with h1 | h1 | h1
        · exact .inl h1
        · refine .inr ⟨e, by simp, hb, .inl ?_⟩
          rw [Nat.testBit_two_pow] at h1
          simpa using h1
        · exact .inr ⟨e, by simp, hb, .inr h1⟩
      · exact .inl h1
    · exact .inr ⟨e', by simp [h1], h2⟩
theorem befL_old : ∀ (l : List Oper) (acc : List Nat) (k : Nat), k < acc.length → (befL l acc).getD k 0 = acc.getD k 0
  | [], acc, k, h => rfl
  | o :: rest, acc, k, h => by
    unfold befL
    rw [befL_old rest _ k (by simp; omega), List.getD_eq_getElem?_getD, List.getD_eq_getElem?_getD, List.getElem?_append_left h]
theorem befL_new : ∀ (l : List Oper) (acc : List Nat) (k : Nat) (o : Oper), l[k]? = some o → ∃ acc' : List Nat, (∀ i, i < acc.length + k → acc'.getD i 0 = (befL l acc).getD i 0) ∧ (befL l acc).getD (acc.length + k) 0 = mask o acc'
  | [], acc, k, o, h => by simp at h
  | o' :: rest, acc, 0, o, h => by
    simp at h
    subst h
    refine ⟨acc, fun i hi => ?_, ?_⟩
    · unfold befL
      rw [befL_old rest _ i (by simp; omega), List.getD_eq_getElem?_getD, List.getD_eq_getElem?_getD, List.getElem?_append_left (by omega)]
    · unfold befL
      rw [befL_old rest _ _ (by simp)]
      simp
  | o' :: rest, acc, k + 1, o, h => by
    obtain ⟨acc', h1, h2⟩ := befL_new rest (acc ++ [mask o' acc]) k o (by simpa using h)
    simp only [List.length_append, List.length_singleton] at h1 h2
    refine ⟨acc', fun i hi => ?_, ?_⟩
    · unfold befL
      exact h1 i (by omega)
    · unfold befL
      rw [show acc.length + (k + 1) = acc.length + 1 + k from by omega]
      exact h2
theorem befs_bit {ops : Array Oper} {i j : Nat} {o : Oper} (ho : ops[i]? = some o) (hlow : ∀ e ∈ o.after, Region.binds .any e = true → e.on < i) (h : (befs ops i).testBit j = true) :
    ∃ e ∈ o.after, Region.binds .any e = true ∧ (e.on = j ∨ (befs ops e.on).testBit j = true) := by
  obtain ⟨acc', h1, h2⟩ := befL_new ops.toList [] i o (by simpa using ho)
  simp only [List.length_nil, Nat.zero_add] at h1 h2
  unfold befs at h
  rw [h2] at h
  rcases mask_bit acc' j _ _ h with h3 | ⟨e, h3, h4, h5⟩
  · simp at h3
  · refine ⟨e, by simpa using h3, h4, h5.imp id fun h6 => ?_⟩
    have := h1 e.on (hlow e (by simpa using h3) h4)
    rw [this] at h6
    exact h6
def readsOf (ops : Array Oper) (o : Oper) : List Tmp :=
  (o.op.operands.toList.filterMap fun x => match x with | .tmp t => some t | _ => none) ++ (match o.guard with | some (g, _) => ((ops[g]?).bind (·.dst)).toList | none => [])
structure Ord (ops : Array Oper) (m : Nat) (L : Nat → Bool) : Prop where
  low : ∀ i o, ops[i]? = some o → ∀ e ∈ o.after, Region.binds .any e = true → e.on < i
  dst : ∀ i j oi oj d, i < m → j < m → i ≠ j → ops[i]? = some oi → ops[j]? = some oj → oj.dst = some d → oi.dst ≠ some d
  rd : ∀ i j oi oj d, i < m → j < m → i ≠ j → ops[i]? = some oi → ops[j]? = some oj → oj.dst = some d → d ∈ readsOf ops oi → (j < i ∧ (befs ops i).testBit j = true) ∨ (i < j ∧ (befs ops j).testBit i = true)
  tail : ∀ k, m ≤ k → k < ops.size → L k = false → ∀ j, j < k → L j = false → (befs ops k).testBit j = true
  le : m ≤ ops.size
  lge : ∀ l ol, L l = true → ops[l]? = some ol → m ≤ l ∧ ol.guard = none
  lwr : ∀ l ol d i oi, L l = true → ops[l]? = some ol → ol.dst = some d → i ≠ l → ops[i]? = some oi → oi.dst ≠ some d ∧ (d ∈ readsOf ops oi → (befs ops i).testBit l = true)
  lrd : ∀ l ol s i oi, L l = true → ops[l]? = some ol → s ∈ readsOf ops ol → ops[i]? = some oi → oi.dst = some s → L i = true ∧ (befs ops l).testBit i = true
def ordB (ops : Array Oper) (m : Nat) : Bool :=
  let bs := befL ops.toList []
  let ix := (List.range ops.size).zip (ops.toList.zip bs)
  let pre := (ix.take m).map fun (i, o, b) => (i, o.dst, readsOf ops o, b)
  ix.all (fun (i, o, b) => o.after.toList.all (fun e => !Region.binds .any e || decide (e.on < i)) && (decide (i < m) || (List.range i).all fun j => b.testBit j)) &&
  pre.all (fun (i, di, ri, bi) => pre.all fun (j, dj, _, bj) => i == j || match dj with
    | none => true
    | some d => di != some d && (!ri.contains d || (if j < i then bi.testBit j else bj.testBit i))) && decide (m ≤ ops.size)
theorem befL_length : ∀ (l : List Oper) (acc : List Nat), (befL l acc).length = acc.length + l.length
  | [], acc => rfl
  | o :: rest, acc => by
    unfold befL
    rw [befL_length rest]
    simp
    omega
theorem Ord.of {ops : Array Oper} {m : Nat} (h : ordB ops m = true) : Ord ops m (fun _ => false) := by
  simp only [ordB, Bool.and_eq_true, decide_eq_true_eq] at h
  obtain ⟨⟨h1, h2⟩, h3⟩ := h
  rw [List.all_eq_true] at h1 h2
  have hix : ∀ i o, ops[i]? = some o → (i, o, befs ops i) ∈ (List.range ops.size).zip (ops.toList.zip (befL ops.toList [])) := by
    intro i o ho
    obtain ⟨hlt, rfl⟩ := Array.getElem?_eq_some_iff.1 ho
    refine List.mem_iff_getElem?.2 ⟨i, ?_⟩
    rw [List.getElem?_zip_eq_some]
    refine ⟨by simp [hlt], ?_⟩
    rw [List.getElem?_zip_eq_some]
    refine ⟨by simp [hlt], ?_⟩
    have hl : i < (befL ops.toList []).length := by rw [befL_length]; simpa using hlt
    simp [befs, hl]
  have hpre : ∀ i o, i < m → ops[i]? = some o → (i, o.dst, readsOf ops o, befs ops i) ∈ (((List.range ops.size).zip (ops.toList.zip (befL ops.toList []))).take m).map fun (x : Nat × Oper × Nat) => (x.1, x.2.1.dst, readsOf ops x.2.1, x.2.2) := by
    intro i o hi ho
    refine List.mem_map.2 ⟨(i, o, befs ops i), ?_, rfl⟩
    obtain ⟨hlt, rfl⟩ := Array.getElem?_eq_some_iff.1 ho
    refine List.mem_iff_getElem?.2 ⟨i, ?_⟩
    rw [List.getElem?_take, if_pos hi, List.getElem?_zip_eq_some]
    refine ⟨by simp [hlt], ?_⟩
    rw [List.getElem?_zip_eq_some]
    refine ⟨by simp [hlt], ?_⟩
    have hl : i < (befL ops.toList []).length := by rw [befL_length]; simpa using hlt
    simp [befs, hl]
  have hp : ∀ i j oi oj d, i < m → j < m → i ≠ j → ops[i]? = some oi → ops[j]? = some oj → oj.dst = some d → oi.dst ≠ some d ∧ (d ∈ readsOf ops oi → (j < i ∧ (befs ops i).testBit j = true) ∨ (i < j ∧ (befs ops j).testBit i = true)) := by
    intro i j oi oj d hi hj hne hoi hoj hd
    have h4 := h2 _ (hpre i oi hi hoi)
    simp only [List.all_eq_true] at h4
    have h5 := h4 _ (hpre j oj hj hoj)
    simp only [hd, Bool.or_eq_true, beq_iff_eq, hne, false_or, Bool.and_eq_true, bne_iff_ne, ne_eq, Bool.not_eq_true', List.contains_eq_mem, decide_eq_false_iff_not] at h5
    refine ⟨h5.1, fun hr => ?_⟩
    rcases h5.2 with h6 | h6
    · exact absurd hr h6
    · by_cases hji : j < i
      · rw [if_pos hji] at h6
        exact .inl ⟨hji, h6⟩
      · rw [if_neg hji] at h6
        exact .inr ⟨by omega, h6⟩
  refine ⟨fun i o ho e he hb => ?_, fun i j oi oj d a b c e f g => (hp i j oi oj d a b c e f g).1, fun i j oi oj d a b c e f g => (hp i j oi oj d a b c e f g).2, fun k hk hlt _ j hj _ => ?_, h3, fun l _ e => (by cases e), fun l _ _ _ _ e => (by cases e), fun l _ _ _ _ e => (by cases e)⟩
  · have := h1 _ (hix i o ho)
    simp only [Bool.and_eq_true, List.all_eq_true, Bool.or_eq_true, Bool.not_eq_true', decide_eq_true_eq] at this
    rcases this.1 e (by simpa using he) with h | h
    · rw [hb] at h
      cases h
    · exact h
  · have := h1 _ (hix k _ (Array.getElem?_eq_getElem hlt))
    simp only [Bool.and_eq_true, List.all_eq_true, Bool.or_eq_true, decide_eq_true_eq, List.mem_range] at this
    rcases this.2 with h | h
    · omega
    · exact h j hj
/-- The late ones: behind a loud one, with no order to it. -/
def lateOf (ops : Array Oper) (m : Nat) : List Nat :=
  let bs := befL ops.toList []
  ((List.range ops.size).zip bs).filterMap fun (k, b) => if decide (m ≤ k) && !(List.range k).all (fun j => b.testBit j) then some k else none
def ordLB (ops : Array Oper) (m : Nat) (L : List Nat) : Bool :=
  let bs := befL ops.toList []
  let ix := (List.range ops.size).zip (ops.toList.zip bs)
  ix.all (fun (i, o, b) => o.after.toList.all (fun e => !Region.binds .any e || decide (e.on < i)) && (decide (i < m) || L.contains i || (List.range i).all fun j => L.contains j || b.testBit j)) &&
  (ix.take m).all (fun (i, oi, bi) => (ix.take m).all fun (j, oj, bj) => i == j || match oj.dst with
    | none => true
    | some d => oi.dst != some d && (!(readsOf ops oi).contains d || (if j < i then bi.testBit j else bj.testBit i))) && decide (m ≤ ops.size) &&
  ix.all (fun (l, ol, bl) => !L.contains l || (decide (m ≤ l) && ol.guard.isNone && ix.all fun (i, oi, bi) =>
    (i == l || match ol.dst with
      | none => true
      | some d => oi.dst != some d && (!(readsOf ops oi).contains d || bi.testBit l)) &&
    match oi.dst with
      | none => true
      | some s => !(readsOf ops ol).contains s || (L.contains i && bl.testBit i)))
theorem Ord.ofL {ops : Array Oper} {m : Nat} {L : List Nat} (h : ordLB ops m L = true) : Ord ops m (fun k => L.contains k) := by
  simp only [ordLB, Bool.and_eq_true, decide_eq_true_eq] at h
  obtain ⟨⟨⟨h1, h2⟩, h3⟩, h4⟩ := h
  rw [List.all_eq_true] at h1 h2 h4
  have hix : ∀ i o, ops[i]? = some o → (i, o, befs ops i) ∈ (List.range ops.size).zip (ops.toList.zip (befL ops.toList [])) := by
    intro i o ho
    obtain ⟨hlt, rfl⟩ := Array.getElem?_eq_some_iff.1 ho
    refine List.mem_iff_getElem?.2 ⟨i, ?_⟩
    rw [List.getElem?_zip_eq_some]
    refine ⟨by simp [hlt], ?_⟩
    rw [List.getElem?_zip_eq_some]
    refine ⟨by simp [hlt], ?_⟩
    have hl : i < (befL ops.toList []).length := by rw [befL_length]; simpa using hlt
    simp [befs, hl]
  have hpre : ∀ i o, i < m → ops[i]? = some o → (i, o, befs ops i) ∈ ((List.range ops.size).zip (ops.toList.zip (befL ops.toList []))).take m := by
    intro i o hi ho
    obtain ⟨hlt, rfl⟩ := Array.getElem?_eq_some_iff.1 ho
    refine List.mem_iff_getElem?.2 ⟨i, ?_⟩
    rw [List.getElem?_take, if_pos hi, List.getElem?_zip_eq_some]
    refine ⟨by simp [hlt], ?_⟩
    rw [List.getElem?_zip_eq_some]
    refine ⟨by simp [hlt], ?_⟩
    have hl : i < (befL ops.toList []).length := by rw [befL_length]; simpa using hlt
    simp [befs, hl]
  have hp : ∀ i j oi oj d, i < m → j < m → i ≠ j → ops[i]? = some oi → ops[j]? = some oj → oj.dst = some d → oi.dst ≠ some d ∧ (d ∈ readsOf ops oi → (j < i ∧ (befs ops i).testBit j = true) ∨ (i < j ∧ (befs ops j).testBit i = true)) := by
    intro i j oi oj d hi hj hne hoi hoj hd
    have h5 := h2 _ (hpre i oi hi hoi)
    rw [List.all_eq_true] at h5
    have h6 := h5 _ (hpre j oj hj hoj)
    simp only [hd, Bool.or_eq_true, beq_iff_eq, hne, false_or, Bool.and_eq_true, bne_iff_ne, ne_eq, Bool.not_eq_true', List.contains_eq_mem, decide_eq_false_iff_not] at h6
    refine ⟨h6.1, fun hr => ?_⟩
    rcases h6.2 with h7 | h7
    · exact absurd hr h7
    · by_cases hji : j < i
      · rw [if_pos hji] at h7
        exact .inl ⟨hji, h7⟩
      · rw [if_neg hji] at h7
        exact .inr ⟨by omega, h7⟩
  have hl : ∀ l ol, L.contains l = true → ops[l]? = some ol → m ≤ l ∧ ol.guard.isNone = true ∧ ∀ i oi, ops[i]? = some oi →
      ((i == l || match ol.dst with
        | none => true
        | some d => oi.dst != some d && (!(readsOf ops oi).contains d || (befs ops i).testBit l)) = true) ∧
      (match oi.dst with
        | none => true
        | some s => !(readsOf ops ol).contains s || (L.contains i && (befs ops l).testBit i)) = true := by
    intro l ol hL ho
    have h5 := h4 _ (hix l ol ho)
    simp only [hL, Bool.not_true, Bool.false_or, Bool.and_eq_true, decide_eq_true_eq] at h5
    obtain ⟨⟨h6, h7⟩, h8⟩ := h5
    refine ⟨h6, h7, fun i oi hoi => ?_⟩
    rw [List.all_eq_true] at h8
    have h9 := h8 _ (hix i oi hoi)
    rw [Bool.and_eq_true] at h9
    exact h9
  refine ⟨fun i o ho e he hb => ?_, fun i j oi oj d a b c e f g => (hp i j oi oj d a b c e f g).1, fun i j oi oj d a b c e f g => (hp i j oi oj d a b c e f g).2, fun k hk hlt hLk j hj hLj => ?_, h3, fun l ol hL ho => ?_, fun l ol d i oi hL ho hd hne hoi => ?_, fun l ol s i oi hL ho hs hoi hd => ?_⟩
  · have := h1 _ (hix i o ho)
    simp only [Bool.and_eq_true, List.all_eq_true, Bool.or_eq_true, Bool.not_eq_true', decide_eq_true_eq] at this
    rcases this.1 e (by simpa using he) with h | h
    · rw [hb] at h
      cases h
    · exact h
  · have := h1 _ (hix k _ (Array.getElem?_eq_getElem hlt))
    rw [Bool.and_eq_true] at this
    have h5 := this.2
    rw [Bool.or_eq_true, Bool.or_eq_true, decide_eq_true_eq, List.all_eq_true] at h5
    rcases h5 with (h | h) | h
    · omega
    · rw [hLk] at h
      cases h
    · have h6 := h j (by simpa using hj)
      rw [hLj, Bool.false_or] at h6
      exact h6
  · obtain ⟨h5, h6, _⟩ := hl l ol hL ho
    exact ⟨h5, by simpa using h6⟩
  · obtain ⟨_, _, h5⟩ := hl l ol hL ho
    have h6 := (h5 i oi hoi).1
    simp only [hd, Bool.or_eq_true, beq_iff_eq, hne, false_or, Bool.and_eq_true, bne_iff_ne, ne_eq, Bool.not_eq_true', List.contains_eq_mem, decide_eq_false_iff_not] at h6
    refine ⟨h6.1, fun hr => ?_⟩
    rcases h6.2 with h7 | h7
    · exact absurd hr h7
    · exact h7
  · obtain ⟨_, _, h5⟩ := hl l ol hL ho
    have h6 := (h5 i oi hoi).2
    simp only [hd, Bool.or_eq_true, Bool.not_eq_true', List.contains_eq_mem, decide_eq_false_iff_not, Bool.and_eq_true, decide_eq_true_eq] at h6
    rcases h6 with h7 | h7
    · exact absurd hs h7
    · exact ⟨by simpa using h7.1, h7.2⟩
/-! ### A run in the order of the text -/
def StepAt (P : Program) (G : Glob) (ops : Array Oper) (o : Oper) (t t' : List AV) (H H' : AHeap) (v : AV) : Prop :=
  t' = tput t o.dst v ∧ (∃ N, H' = H ++ N) ∧ ∃ wd : Bool, (∀ (σ : Sig) (w : World) (a : Act), (∀ g want d, o.guard = some (g, want) → (ops[g]?).bind (·.dst) = some d → AR σ w (t.getD d .any) (a.tmps.getD d undef) ∧ (d < a.tmps.size ∨ t.getD d .any = .any)) → Region.wanted o (yielded ops a.tmps) = wd) ∧
    if wd then OpOk P G true o (aenv G t) H v H' else v = .v undef ∧ H' = H
theorem aops_run {ops : Array Oper} : ∀ {l : List Oper} {t : List AV} {H : AHeap} {K : List AV → AHeap → Prop}, aops P G true ops l t H K →
    ∃ (T : Nat → List AV) (Hh : Nat → AHeap) (V : Nat → AV), T 0 = t ∧ Hh 0 = H ∧ K (T l.length) (Hh l.length) ∧ ∀ k o, l[k]? = some o → StepAt P G ops o (T k) (T (k + 1)) (Hh k) (Hh (k + 1)) (V k)
  | [], t, H, K, h => ⟨fun _ => t, fun _ => H, fun _ => .any, rfl, rfl, h, fun k o hk => by simp at hk⟩
  | o :: rest, t, H, K, h => by
    obtain ⟨wd, h, hw⟩ := aguard_ok h
    have fin : ∀ (v : AV) (H' : AHeap), aops P G true ops rest (tput t o.dst v) H' K → StepAt P G ops o t (tput t o.dst v) H H' v →
        ∃ (T : Nat → List AV) (Hh : Nat → AHeap) (V : Nat → AV), T 0 = t ∧ Hh 0 = H ∧ K (T (o :: rest).length) (Hh (o :: rest).length) ∧ ∀ k o', (o :: rest)[k]? = some o' → StepAt P G ops o' (T k) (T (k + 1)) (Hh k) (Hh (k + 1)) (V k) := by
      intro v H' h hs
      obtain ⟨T, Hh, V, h1, h2, h3, h4⟩ := aops_run h
      refine ⟨fun k => match k with | 0 => t | k + 1 => T k, fun k => match k with | 0 => H | k + 1 => Hh k, fun k => match k with | 0 => v | k + 1 => V k, rfl, rfl, h3, fun k o' hk => ?_⟩
      cases k with
      | zero =>
        simp at hk
        subst hk
        show StepAt P G ops o t (T 0) H (Hh 0) v
        rw [h1, h2]
        exact hs
      | succ k => exact h4 k o' (by simpa using hk)
    cases wd with
    | true =>
      simp only [if_true] at h
      obtain ⟨r, H', hK, hop, hN⟩ := aop_ok h
      exact fin r H' hK ⟨rfl, hN rfl, true, hw, hop⟩
    | false =>
      simp only [Bool.false_eq_true, if_false] at h
      exact fin _ H h ⟨rfl, ⟨[], by simp⟩, false, hw, rfl, rfl⟩
end Go.Abs
