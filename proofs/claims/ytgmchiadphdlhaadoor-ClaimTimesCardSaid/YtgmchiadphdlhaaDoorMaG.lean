/- Claims: a rule's error; of rules. Claims: the first rule's error; the usual rules. Claims that are made; the known example. ClaimTimes, the law. -/
import Derived.Test.YtgmchiadphdlhaaDoorMaE
import Derived.Test.YtgmchiadphdlhaaDoorMuM
import Derived.Test.YtgmchiadphdlhaaDoorCodC
namespace Go.Abs.S
attribute [local go_sem] lguard aopO aop nxL aenv toAV tput aLoad aStore vcells aBin aNilI aUn aAlloc aBox aBuild aBSlice afill aConv isIntT aappZ aCap aArr aMM aMake aSlice bnd3 bnd aFldAddr aFld aIdxAddr aIdx aExt aLen aCopy aEq0 bAV aUb aapp aappQ agh acont List.getD_cons_zero List.getD_cons_succ List.set_cons_zero List.set_cons_succ List.getElem?_cons_zero List.getElem?_cons_succ List.length_cons List.length_nil List.map_cons List.map_nil ints_length if_true if_false Bool.false_eq_true true_and and_true eq_self ne_eq not_false_eq_true not_true_eq_false beq_self_eq_true Nat.zero_add Nat.add_zero Nat.mul_one Nat.zero_mul Int.toNat_natCast List.toList_toArray List.all_cons List.all_nil AV.one Value.oneCell' Bool.and_true Bool.true_and forall_const true_implies false_implies implies_true Option.map_some Option.map_none Option.isSome_some Option.isSome_none imp_self rdP_flat rdP_row splice_one ints_set ints_get List.append_nil List.cons_append List.nil_append List.getElem?_toArray List.drop_zero ints_drop ints_take List.take_of_length_le splice_all ints_one Option.some.injEq Option.getD_some List.length_replicate zArr List.map_replicate rep_ints splice_intsR List.length_set List.length_append List.flatten_replicate_singleton rep_slice rep_string rep_bool rep_iface List.replicate_zero if_pos if_neg List.mapM_cons List.mapM_nil Option.pure_def Option.bind_eq_bind Option.bind_some Bool.true_eq_false Bool.not_false Bool.not_true get_concat set_concat
open Go.Proofs
set_option linter.unusedVariables false
set_option linter.unusedSimpArgs false
set_option maxRecDepth 100000
set_option maxHeartbeats 4000000
/-- A page, and what time it is. -/
abbrev claA (N V : AV) (now : Int) : AV := .agg [ivC 6, stA ⟨#[]⟩, N, V, ivC now]
theorem NR.claA {N V : AV} (hN : NR N) (hV : NR V) (now : Int) : NR (claA N V now) := NR.agg (by
  intro x hx
  simp only [List.mem_cons, List.not_mem_nil, or_false] at hx
  rcases hx with rfl | rfl | rfl | rfl | rfl
  · exact NR.v _
  · exact NR.v _
  · exact hN
  · exact hV
  · exact NR.v _)
theorem NR.t2c (a b : Value) : NR (.tup [.v a, .v b]) := NR.tup (by intro c hc; simp at hc; rcases hc with rfl | rfl <;> exact NR.v _)
/-- A row, or none. -/
def Rowy (a : AV) : Prop := a = nlA ∨ ∃ n c k, a = .vsl n c k
theorem text_p (N V : AV) (hN : NR N) (hV : NR V) (now : Int) (name : ByteArray) (k : Int) (s : ByteArray) (a b : AV) (ha : Rowy a) (hb : Rowy b) (t : Bool)
    (hg : PCall Tryd.prog glob 44 [.agg [ivC 6, stA ⟨#[]⟩, N, V], stA name] (.tup [.agg [ivC k, stA s, a, b], .v (.bool t)])) :
    PCall Tryd.prog glob 29 [claA N V now, stA name] (.tup [stA s, .v (.bool (t && decide (k = 4)))]) := by
  refine PCall.of ctx.nr (List.forall_mem_cons.2 ⟨NR.claA hN hV _, List.forall_mem_cons.2 ⟨NR.v _, fun _ h => absurd h List.not_mem_nil⟩⟩) (NR.t2c _ _) ?_
  refine lcall29 (by simp) 0 (Nat.le_refl _) ?_
  unfold lc29
  simp only [List.length_cons, List.length_nil, Nat.reduceAdd, Nat.reduceSub, List.replicate_succ, List.replicate_zero, List.cons_append, List.nil_append]
  unfold claA
  obtain ⟨w, hw⟩ : ∃ w, decide (k = 4) = w := ⟨_, rfl⟩
  have q : (k == 4) = w := by rw [← hw]; rfl
  have e5 : List.take 4 [ivC 6, stA ⟨#[]⟩, N, V, ivC now] = [ivC 6, stA ⟨#[]⟩, N, V] := rfl
  rw [hw]
  rcases ha with rfl | ⟨n1, c1, k1, rfl⟩ <;> rcases hb with rfl | ⟨n2, c2, k2, rfl⟩ <;> cases t
  all_goals
    repeat (first
      | (with_reducible refine lops_step fun K hK => ?_; simp (disch := first | exact dch | fail) only [go_sem, Nat.reduceAdd, Nat.reduceSub, reduceIte, Nat.reduceEqDiff, Int.reduceToNat, Int.reduceBEq, Int.reduceBNe, q, e5]; (try (first | (refine And.intro (fun _ => ?_) (fun h => absurd h (by decide))) | (refine And.intro (fun h => absurd h (by decide)) (fun _ => ?_)))); (repeat (with_reducible refine And.intro acl ?_)); (first | (refine hK _ _ ?_) | (refine ⟨_, rfl, hK _ _ ?_⟩) | (refine Or.inl (hK _ _ ?_)) | (refine ⟨_, _, Or.inl (hg.go _), (by first | exact ⟨[], (List.append_nil _).symm⟩ | exact ⟨_, rfl⟩), hK _ _ ?_⟩) | (refine ⟨_, _, Or.inl (hg.go _), hK _ _ ?_⟩) | (refine ⟨_, _, Or.inl (hg.go _).weakQ, hK _ _ ?_⟩)); clear hK K)
      | (with_reducible refine lops_nil ?_)
      | (with_reducible first | refine lavc_reg ?_ | refine lavc_seq ?_ | refine lavc_block ?_ | refine lavc_skip ?_ | refine lavc_exit ?_ | refine lavc_ret ?_ | refine lavcR_round ?_)
      | (refine lavc_cond rfl (fun _ => ?_) (fun hc => absurd hc (by decide)))
      | (refine lavc_cond rfl (fun hc => absurd hc (by decide)) (fun _ => ?_))
      | (simp only [↓reduceIte, Nat.reduceEqDiff, reduceCtorEq]))
    refine And.intro (by simp) ?_
    simp (disch := first | exact dch | fail) only [go_sem, Nat.reduceAdd, Nat.reduceSub, reduceIte, Nat.reduceEqDiff, Int.reduceToNat, Int.reduceBEq, Int.reduceBNe, aret, aretL, aret1, aenv]
    (repeat (with_reducible refine And.intro acl ?_))
    exact end0 (NR.t2c _ _) rfl
/-- A rule: what it asks, of which name, what is wanted. -/
abbrev ruleA (r : Int × ByteArray × ByteArray) : List AV := [ivC r.1, stA r.2.1, stA r.2.2]
/-- What a text is wrong by. -/
def wrongP (ask : Int) (want s : ByteArray) (now : Int) : Int :=
  if ask = 1 then (if s = want then 0 else 15)
  else if ask = 2 then 0
  else if (readP s).2 ≠ 0 then 12
  else if ask = 3 ∧ now < (readP s).1 then 13
  else if ask = 4 ∧ (readP s).1 ≤ now then 14
  else 0
theorem wrong_p (ask : Int) (name want s : ByteArray) (now : Int) (hs : s.size ≤ 1000000) : PCall Tryd.prog glob 30 [.agg [ivC ask, stA name, stA want], stA s, ivC now] (ivC (wrongP ask want s now)) := by
  refine PCall.of ctx.nr (List.forall_mem_cons.2 ⟨NR.agg (by intro c hc; simp at hc; rcases hc with rfl | rfl | rfl <;> exact NR.v _), List.forall_mem_cons.2 ⟨NR.v _, List.forall_mem_cons.2 ⟨NR.v _, fun _ h => absurd h List.not_mem_nil⟩⟩⟩) (NR.v _) ?_
  refine lcall30 (by simp) 0 (Nat.le_refl _) ?_
  unfold lc30
  simp only [List.length_cons, List.length_nil, Nat.reduceAdd, Nat.reduceSub, List.replicate_succ, List.replicate_zero, List.cons_append, List.nil_append]
  unfold wrongP
  by_cases h1 : ask = 1
  · subst h1
    rw [if_pos rfl]
    by_cases hx : s = want
    · rw [if_pos hx]
      have q : (s.toList == want.toList) = true := by rw [stA_beq]; exact decide_eq_true hx
      repeat (first
        | (with_reducible refine lops_step fun K hK => ?_; simp (disch := first | exact dch | fail) only [go_sem, Nat.reduceAdd, Nat.reduceSub, reduceIte, Nat.reduceEqDiff, Int.reduceToNat, Int.reduceBEq, Int.reduceBNe, q, Bool.not_true, Bool.not_false]; (try (first | (refine And.intro (fun _ => ?_) (fun h => absurd h (by decide))) | (refine And.intro (fun h => absurd h (by decide)) (fun _ => ?_)))); (repeat (with_reducible refine And.intro acl ?_)); (first | (refine hK _ _ ?_) | (refine ⟨_, rfl, hK _ _ ?_⟩) | (refine Or.inl (hK _ _ ?_))); clear hK K)
        | (with_reducible refine lops_nil ?_)
        | (with_reducible first | refine lavc_reg ?_ | refine lavc_seq ?_ | refine lavc_block ?_ | refine lavc_skip ?_ | refine lavc_exit ?_ | refine lavc_ret ?_ | refine lavcR_round ?_)
        | (refine lavc_cond rfl (fun _ => ?_) (fun hc => absurd hc (by decide)))
        | (refine lavc_cond rfl (fun hc => absurd hc (by decide)) (fun _ => ?_))
        | (simp only [↓reduceIte, Nat.reduceEqDiff, reduceCtorEq]))
      refine And.intro (by simp) ?_
      simp (disch := first | exact dch | fail) only [go_sem, Nat.reduceAdd, Nat.reduceSub, reduceIte, Nat.reduceEqDiff, Int.reduceToNat, Int.reduceBEq, Int.reduceBNe, aret, aretL, aret1, aenv]
      (repeat (with_reducible refine And.intro acl ?_))
      exact end0 (NR.v _) rfl
    · rw [if_neg hx]
      have q : (s.toList == want.toList) = false := by rw [stA_beq]; exact decide_eq_false hx
      repeat (first
        | (with_reducible refine lops_step fun K hK => ?_; simp (disch := first | exact dch | fail) only [go_sem, Nat.reduceAdd, Nat.reduceSub, reduceIte, Nat.reduceEqDiff, Int.reduceToNat, Int.reduceBEq, Int.reduceBNe, q, Bool.not_true, Bool.not_false]; (try (first | (refine And.intro (fun _ => ?_) (fun h => absurd h (by decide))) | (refine And.intro (fun h => absurd h (by decide)) (fun _ => ?_)))); (repeat (with_reducible refine And.intro acl ?_)); (first | (refine hK _ _ ?_) | (refine ⟨_, rfl, hK _ _ ?_⟩) | (refine Or.inl (hK _ _ ?_))); clear hK K)
        | (with_reducible refine lops_nil ?_)
        | (with_reducible first | refine lavc_reg ?_ | refine lavc_seq ?_ | refine lavc_block ?_ | refine lavc_skip ?_ | refine lavc_exit ?_ | refine lavc_ret ?_ | refine lavcR_round ?_)
        | (refine lavc_cond rfl (fun _ => ?_) (fun hc => absurd hc (by decide)))
        | (refine lavc_cond rfl (fun hc => absurd hc (by decide)) (fun _ => ?_))
        | (simp only [↓reduceIte, Nat.reduceEqDiff, reduceCtorEq]))
      refine And.intro (by simp) ?_
      simp (disch := first | exact dch | fail) only [go_sem, Nat.reduceAdd, Nat.reduceSub, reduceIte, Nat.reduceEqDiff, Int.reduceToNat, Int.reduceBEq, Int.reduceBNe, aret, aretL, aret1, aenv]
      (repeat (with_reducible refine And.intro acl ?_))
      exact end0 (NR.v _) rfl
  rw [if_neg h1]
  have q1 : ((ask : Int) == 1) = false := by rw [beq_eq_false_iff_ne, ne_eq]; omega
  by_cases h2 : ask = 2
  · subst h2
    rw [if_pos rfl]
    repeat (first
      | (with_reducible refine lops_step fun K hK => ?_; simp (disch := first | exact dch | fail) only [go_sem, Nat.reduceAdd, Nat.reduceSub, reduceIte, Nat.reduceEqDiff, Int.reduceToNat, Int.reduceBEq, Int.reduceBNe]; (try (first | (refine And.intro (fun _ => ?_) (fun h => absurd h (by decide))) | (refine And.intro (fun h => absurd h (by decide)) (fun _ => ?_)))); (repeat (with_reducible refine And.intro acl ?_)); (first | (refine hK _ _ ?_) | (refine ⟨_, rfl, hK _ _ ?_⟩) | (refine Or.inl (hK _ _ ?_))); clear hK K)
      | (with_reducible refine lops_nil ?_)
      | (with_reducible first | refine lavc_reg ?_ | refine lavc_seq ?_ | refine lavc_block ?_ | refine lavc_skip ?_ | refine lavc_exit ?_ | refine lavc_ret ?_ | refine lavcR_round ?_)
      | (refine lavc_cond rfl (fun _ => ?_) (fun hc => absurd hc (by decide)))
      | (refine lavc_cond rfl (fun hc => absurd hc (by decide)) (fun _ => ?_))
      | (simp only [↓reduceIte, Nat.reduceEqDiff, reduceCtorEq]))
    refine And.intro (by simp) ?_
    simp (disch := first | exact dch | fail) only [go_sem, Nat.reduceAdd, Nat.reduceSub, reduceIte, Nat.reduceEqDiff, Int.reduceToNat, Int.reduceBEq, Int.reduceBNe, aret, aretL, aret1, aenv]
    (repeat (with_reducible refine And.intro acl ?_))
    exact end0 (NR.v _) rfl
  rw [if_neg h2]
  have q2 : ((ask : Int) == 2) = false := by rw [beq_eq_false_iff_ne, ne_eq]; omega
  have rp := Read_p s hs
  obtain ⟨⟨n, e⟩, hr⟩ : ∃ x, readP s = x := ⟨_, rfl⟩
  rw [hr] at rp ⊢
  by_cases he : e = 0
  · subst he
    simp only [ne_eq, not_true_eq_false, if_false]
    by_cases h3 : ask = 3
    · subst h3
      by_cases hn : now < n
      · rw [if_pos ⟨rfl, hn⟩]
        have d : decide (n > now) = true := by rw [decide_eq_true_eq]; omega
        repeat (first
          | (with_reducible refine lops_step fun K hK => ?_; simp (disch := first | exact dch | fail) only [go_sem, Nat.reduceAdd, Nat.reduceSub, reduceIte, Nat.reduceEqDiff, Int.reduceToNat, Int.reduceBEq, Int.reduceBNe, d]; (try (first | (refine And.intro (fun _ => ?_) (fun h => absurd h (by decide))) | (refine And.intro (fun h => absurd h (by decide)) (fun _ => ?_)))); (repeat (with_reducible refine And.intro acl ?_)); (first | (refine hK _ _ ?_) | (refine ⟨_, rfl, hK _ _ ?_⟩) | (refine Or.inl (hK _ _ ?_)) | (refine ⟨_, _, Or.inl (rp.go _), (by first | exact ⟨[], (List.append_nil _).symm⟩ | exact ⟨_, rfl⟩), hK _ _ ?_⟩) | (refine ⟨_, _, Or.inl (rp.go _), hK _ _ ?_⟩) | (refine ⟨_, _, Or.inl (rp.go _).weakQ, hK _ _ ?_⟩)); clear hK K)
          | (with_reducible refine lops_nil ?_)
          | (with_reducible first | refine lavc_reg ?_ | refine lavc_seq ?_ | refine lavc_block ?_ | refine lavc_skip ?_ | refine lavc_exit ?_ | refine lavc_ret ?_ | refine lavcR_round ?_)
          | (refine lavc_cond rfl (fun _ => ?_) (fun hc => absurd hc (by decide)))
          | (refine lavc_cond rfl (fun hc => absurd hc (by decide)) (fun _ => ?_))
          | (simp only [↓reduceIte, Nat.reduceEqDiff, reduceCtorEq]))
        refine And.intro (by simp) ?_
        simp (disch := first | exact dch | fail) only [go_sem, Nat.reduceAdd, Nat.reduceSub, reduceIte, Nat.reduceEqDiff, Int.reduceToNat, Int.reduceBEq, Int.reduceBNe, aret, aretL, aret1, aenv]
        (repeat (with_reducible refine And.intro acl ?_))
        exact end0 (NR.v _) rfl
      · rw [if_neg (fun h => hn h.2), if_neg (fun h => absurd h.1 (by decide))]
        have d : decide (n > now) = false := by rw [decide_eq_false_iff_not]; omega
        repeat (first
          | (with_reducible refine lops_step fun K hK => ?_; simp (disch := first | exact dch | fail) only [go_sem, Nat.reduceAdd, Nat.reduceSub, reduceIte, Nat.reduceEqDiff, Int.reduceToNat, Int.reduceBEq, Int.reduceBNe, d]; (try (first | (refine And.intro (fun _ => ?_) (fun h => absurd h (by decide))) | (refine And.intro (fun h => absurd h (by decide)) (fun _ => ?_)))); (repeat (with_reducible refine And.intro acl ?_)); (first | (refine hK _ _ ?_) | (refine ⟨_, rfl, hK _ _ ?_⟩) | (refine Or.inl (hK _ _ ?_)) | (refine ⟨_, _, Or.inl (rp.go _), (by first | exact ⟨[], (List.append_nil _).symm⟩ | exact ⟨_, rfl⟩), hK _ _ ?_⟩) | (refine ⟨_, _, Or.inl (rp.go _), hK _ _ ?_⟩) | (refine ⟨_, _, Or.inl (rp.go _).weakQ, hK _ _ ?_⟩)); clear hK K)
          | (with_reducible refine lops_nil ?_)
          | (with_reducible first | refine lavc_reg ?_ | refine lavc_seq ?_ | refine lavc_block ?_ | refine lavc_skip ?_ | refine lavc_exit ?_ | refine lavc_ret ?_ | refine lavcR_round ?_)
          | (refine lavc_cond rfl (fun _ => ?_) (fun hc => absurd hc (by decide)))
          | (refine lavc_cond rfl (fun hc => absurd hc (by decide)) (fun _ => ?_))
          | (simp only [↓reduceIte, Nat.reduceEqDiff, reduceCtorEq]))
        refine And.intro (by simp) ?_
        simp (disch := first | exact dch | fail) only [go_sem, Nat.reduceAdd, Nat.reduceSub, reduceIte, Nat.reduceEqDiff, Int.reduceToNat, Int.reduceBEq, Int.reduceBNe, aret, aretL, aret1, aenv]
        (repeat (with_reducible refine And.intro acl ?_))
        exact end0 (NR.v _) rfl
    have q3 : ((ask : Int) == 3) = false := by rw [beq_eq_false_iff_ne, ne_eq]; omega
    rw [if_neg (fun h => h3 h.1)]
    by_cases h4 : ask = 4
    · subst h4
      by_cases hn : n ≤ now
      · rw [if_pos ⟨rfl, hn⟩]
        have d : decide (n ≤ now) = true := by rw [decide_eq_true_eq]; omega
        repeat (first
          | (with_reducible refine lops_step fun K hK => ?_; simp (disch := first | exact dch | fail) only [go_sem, Nat.reduceAdd, Nat.reduceSub, reduceIte, Nat.reduceEqDiff, Int.reduceToNat, Int.reduceBEq, Int.reduceBNe, d]; (try (first | (refine And.intro (fun _ => ?_) (fun h => absurd h (by decide))) | (refine And.intro (fun h => absurd h (by decide)) (fun _ => ?_)))); (repeat (with_reducible refine And.intro acl ?_)); (first | (refine hK _ _ ?_) | (refine ⟨_, rfl, hK _ _ ?_⟩) | (refine Or.inl (hK _ _ ?_)) | (refine ⟨_, _, Or.inl (rp.go _), (by first | exact ⟨[], (List.append_nil _).symm⟩ | exact ⟨_, rfl⟩), hK _ _ ?_⟩) | (refine ⟨_, _, Or.inl (rp.go _), hK _ _ ?_⟩) | (refine ⟨_, _, Or.inl (rp.go _).weakQ, hK _ _ ?_⟩)); clear hK K)
          | (with_reducible refine lops_nil ?_)
          | (with_reducible first | refine lavc_reg ?_ | refine lavc_seq ?_ | refine lavc_block ?_ | refine lavc_skip ?_ | refine lavc_exit ?_ | refine lavc_ret ?_ | refine lavcR_round ?_)
          | (refine lavc_cond rfl (fun _ => ?_) (fun hc => absurd hc (by decide)))
          | (refine lavc_cond rfl (fun hc => absurd hc (by decide)) (fun _ => ?_))
          | (simp only [↓reduceIte, Nat.reduceEqDiff, reduceCtorEq]))
        refine And.intro (by simp) ?_
        simp (disch := first | exact dch | fail) only [go_sem, Nat.reduceAdd, Nat.reduceSub, reduceIte, Nat.reduceEqDiff, Int.reduceToNat, Int.reduceBEq, Int.reduceBNe, aret, aretL, aret1, aenv]
        (repeat (with_reducible refine And.intro acl ?_))
        exact end0 (NR.v _) rfl
      · rw [if_neg (fun h => hn h.2)]
        have d : decide (n ≤ now) = false := by rw [decide_eq_false_iff_not]; omega
        repeat (first
          | (with_reducible refine lops_step fun K hK => ?_; simp (disch := first | exact dch | fail) only [go_sem, Nat.reduceAdd, Nat.reduceSub, reduceIte, Nat.reduceEqDiff, Int.reduceToNat, Int.reduceBEq, Int.reduceBNe, d]; (try (first | (refine And.intro (fun _ => ?_) (fun h => absurd h (by decide))) | (refine And.intro (fun h => absurd h (by decide)) (fun _ => ?_)))); (repeat (with_reducible refine And.intro acl ?_)); (first | (refine hK _ _ ?_) | (refine ⟨_, rfl, hK _ _ ?_⟩) | (refine Or.inl (hK _ _ ?_)) | (refine ⟨_, _, Or.inl (rp.go _), (by first | exact ⟨[], (List.append_nil _).symm⟩ | exact ⟨_, rfl⟩), hK _ _ ?_⟩) | (refine ⟨_, _, Or.inl (rp.go _), hK _ _ ?_⟩) | (refine ⟨_, _, Or.inl (rp.go _).weakQ, hK _ _ ?_⟩)); clear hK K)
          | (with_reducible refine lops_nil ?_)
          | (with_reducible first | refine lavc_reg ?_ | refine lavc_seq ?_ | refine lavc_block ?_ | refine lavc_skip ?_ | refine lavc_exit ?_ | refine lavc_ret ?_ | refine lavcR_round ?_)
          | (refine lavc_cond rfl (fun _ => ?_) (fun hc => absurd hc (by decide)))
          | (refine lavc_cond rfl (fun hc => absurd hc (by decide)) (fun _ => ?_))
          | (simp only [↓reduceIte, Nat.reduceEqDiff, reduceCtorEq]))
        refine And.intro (by simp) ?_
        simp (disch := first | exact dch | fail) only [go_sem, Nat.reduceAdd, Nat.reduceSub, reduceIte, Nat.reduceEqDiff, Int.reduceToNat, Int.reduceBEq, Int.reduceBNe, aret, aretL, aret1, aenv]
        (repeat (with_reducible refine And.intro acl ?_))
        exact end0 (NR.v _) rfl
    · rw [if_neg (fun h => h4 h.1)]
      have q4 : ((ask : Int) == 4) = false := by rw [beq_eq_false_iff_ne, ne_eq]; omega
      repeat (first
        | (with_reducible refine lops_step fun K hK => ?_; simp (disch := first | exact dch | fail) only [go_sem, Nat.reduceAdd, Nat.reduceSub, reduceIte, Nat.reduceEqDiff, Int.reduceToNat, Int.reduceBEq, Int.reduceBNe, q1, q2, q3, q4]; (try (first | (refine And.intro (fun _ => ?_) (fun h => absurd h (by decide))) | (refine And.intro (fun h => absurd h (by decide)) (fun _ => ?_)))); (repeat (with_reducible refine And.intro acl ?_)); (first | (refine hK _ _ ?_) | (refine ⟨_, rfl, hK _ _ ?_⟩) | (refine Or.inl (hK _ _ ?_)) | (refine ⟨_, _, Or.inl (rp.go _), (by first | exact ⟨[], (List.append_nil _).symm⟩ | exact ⟨_, rfl⟩), hK _ _ ?_⟩) | (refine ⟨_, _, Or.inl (rp.go _), hK _ _ ?_⟩) | (refine ⟨_, _, Or.inl (rp.go _).weakQ, hK _ _ ?_⟩)); clear hK K)
        | (with_reducible refine lops_nil ?_)
        | (with_reducible first | refine lavc_reg ?_ | refine lavc_seq ?_ | refine lavc_block ?_ | refine lavc_skip ?_ | refine lavc_exit ?_ | refine lavc_ret ?_ | refine lavcR_round ?_)
        | (refine lavc_cond rfl (fun _ => ?_) (fun hc => absurd hc (by decide)))
        | (refine lavc_cond rfl (fun hc => absurd hc (by decide)) (fun _ => ?_))
        | (simp only [↓reduceIte, Nat.reduceEqDiff, reduceCtorEq]))
      refine And.intro (by simp) ?_
      simp (disch := first | exact dch | fail) only [go_sem, Nat.reduceAdd, Nat.reduceSub, reduceIte, Nat.reduceEqDiff, Int.reduceToNat, Int.reduceBEq, Int.reduceBNe, aret, aretL, aret1, aenv]
      (repeat (with_reducible refine And.intro acl ?_))
      exact end0 (NR.v _) rfl
  · rw [if_pos he]
    have d : ((e : Int) != 0) = true := by rw [bne_iff_ne, ne_eq]; omega
    repeat (first
      | (with_reducible refine lops_step fun K hK => ?_; simp (disch := first | exact dch | fail) only [go_sem, Nat.reduceAdd, Nat.reduceSub, reduceIte, Nat.reduceEqDiff, Int.reduceToNat, Int.reduceBEq, Int.reduceBNe, q1, q2, d]; (try (first | (refine And.intro (fun _ => ?_) (fun h => absurd h (by decide))) | (refine And.intro (fun h => absurd h (by decide)) (fun _ => ?_)))); (repeat (with_reducible refine And.intro acl ?_)); (first | (refine hK _ _ ?_) | (refine ⟨_, rfl, hK _ _ ?_⟩) | (refine Or.inl (hK _ _ ?_)) | (refine ⟨_, _, Or.inl (rp.go _), (by first | exact ⟨[], (List.append_nil _).symm⟩ | exact ⟨_, rfl⟩), hK _ _ ?_⟩) | (refine ⟨_, _, Or.inl (rp.go _), hK _ _ ?_⟩) | (refine ⟨_, _, Or.inl (rp.go _).weakQ, hK _ _ ?_⟩)); clear hK K)
      | (with_reducible refine lops_nil ?_)
      | (with_reducible first | refine lavc_reg ?_ | refine lavc_seq ?_ | refine lavc_block ?_ | refine lavc_skip ?_ | refine lavc_exit ?_ | refine lavc_ret ?_ | refine lavcR_round ?_)
      | (refine lavc_cond rfl (fun _ => ?_) (fun hc => absurd hc (by decide)))
      | (refine lavc_cond rfl (fun hc => absurd hc (by decide)) (fun _ => ?_))
      | (simp only [↓reduceIte, Nat.reduceEqDiff, reduceCtorEq]))
    refine And.intro (by simp) ?_
    simp (disch := first | exact dch | fail) only [go_sem, Nat.reduceAdd, Nat.reduceSub, reduceIte, Nat.reduceEqDiff, Int.reduceToNat, Int.reduceBEq, Int.reduceBNe, aret, aretL, aret1, aenv]
    (repeat (with_reducible refine And.intro acl ?_))
    exact end0 (NR.v _) rfl
/-- A rule's error, of a name's text. -/
def checkP (tx : ByteArray → ByteArray × Bool) (now : Int) (r : Int × ByteArray × ByteArray) : Int :=
  if r.1 < 1 ∨ 4 < r.1 then 2 else if (tx r.2.1).2 = true then wrongP r.1 r.2.2 (tx r.2.1).1 now else 15
theorem check_p (N V : AV) (hN : NR N) (hV : NR V) (now : Int) (tx : ByteArray → ByteArray × Bool) (ht : ∀ n, (tx n).1.size ≤ 1000000)
    (hx : ∀ name, PCall Tryd.prog glob 29 [claA N V now, stA name] (.tup [stA (tx name).1, .v (.bool (tx name).2)])) (r : Int × ByteArray × ByteArray) :
    PCall Tryd.prog glob 17 [claA N V now, .agg (ruleA r)] (ivC (checkP tx now r)) := by
  obtain ⟨ask, name, want⟩ := r
  refine PCall.of ctx.nr (List.forall_mem_cons.2 ⟨NR.claA hN hV _, List.forall_mem_cons.2 ⟨NR.agg (by intro c hc; simp at hc; rcases hc with rfl | rfl | rfl <;> exact NR.v _), fun _ h => absurd h List.not_mem_nil⟩⟩) (NR.v _) ?_
  refine lcall17 (by simp) 0 (Nat.le_refl _) ?_
  unfold lc17
  simp only [List.length_cons, List.length_nil, Nat.reduceAdd, Nat.reduceSub, List.replicate_succ, List.replicate_zero, List.cons_append, List.nil_append]
  have hx := hx name
  have hz := ht name
  unfold claA ruleA checkP
  unfold claA at hx
  obtain ⟨⟨s, t⟩, hs⟩ : ∃ x, tx name = x := ⟨_, rfl⟩
  simp only [hs] at hx hz ⊢
  have wp := wrong_p ask name want s now hz
  obtain ⟨w, hw⟩ : ∃ w, wrongP ask want s now = w := ⟨_, rfl⟩
  rw [hw] at wp ⊢
  by_cases h1 : ask < 1
  · rw [if_pos (.inl h1)]
    have d : decide (ask < 1) = true := by rw [decide_eq_true_eq]; omega
    repeat (first
      | (with_reducible refine lops_step fun K hK => ?_; simp (disch := first | exact dch | fail) only [go_sem, Nat.reduceAdd, Nat.reduceSub, reduceIte, Nat.reduceEqDiff, Int.reduceToNat, Int.reduceBEq, Int.reduceBNe, d]; (try (first | (refine And.intro (fun _ => ?_) (fun h => absurd h (by decide))) | (refine And.intro (fun h => absurd h (by decide)) (fun _ => ?_)))); (repeat (with_reducible refine And.intro acl ?_)); (first | (refine hK _ _ ?_) | (refine ⟨_, rfl, hK _ _ ?_⟩) | (refine Or.inl (hK _ _ ?_))); clear hK K)
      | (with_reducible refine lops_nil ?_)
      | (with_reducible first | refine lavc_reg ?_ | refine lavc_seq ?_ | refine lavc_block ?_ | refine lavc_skip ?_ | refine lavc_exit ?_ | refine lavc_ret ?_ | refine lavcR_round ?_)
      | (refine lavc_cond rfl (fun _ => ?_) (fun hc => absurd hc (by decide)))
      | (refine lavc_cond rfl (fun hc => absurd hc (by decide)) (fun _ => ?_))
      | (simp only [↓reduceIte, Nat.reduceEqDiff, reduceCtorEq]))
    refine And.intro (by simp) ?_
    simp (disch := first | exact dch | fail) only [go_sem, Nat.reduceAdd, Nat.reduceSub, reduceIte, Nat.reduceEqDiff, Int.reduceToNat, Int.reduceBEq, Int.reduceBNe, aret, aretL, aret1, aenv]
    (repeat (with_reducible refine And.intro acl ?_))
    exact end0 (NR.v _) rfl
  have d : decide (ask < 1) = false := by rw [decide_eq_false_iff_not]; omega
  by_cases h4 : 4 < ask
  · rw [if_pos (.inr h4)]
    have d4 : decide (ask > 4) = true := by rw [decide_eq_true_eq]; omega
    repeat (first
      | (with_reducible refine lops_step fun K hK => ?_; simp (disch := first | exact dch | fail) only [go_sem, Nat.reduceAdd, Nat.reduceSub, reduceIte, Nat.reduceEqDiff, Int.reduceToNat, Int.reduceBEq, Int.reduceBNe, d, d4]; (try (first | (refine And.intro (fun _ => ?_) (fun h => absurd h (by decide))) | (refine And.intro (fun h => absurd h (by decide)) (fun _ => ?_)))); (repeat (with_reducible refine And.intro acl ?_)); (first | (refine hK _ _ ?_) | (refine ⟨_, rfl, hK _ _ ?_⟩) | (refine Or.inl (hK _ _ ?_))); clear hK K)
      | (with_reducible refine lops_nil ?_)
      | (with_reducible first | refine lavc_reg ?_ | refine lavc_seq ?_ | refine lavc_block ?_ | refine lavc_skip ?_ | refine lavc_exit ?_ | refine lavc_ret ?_ | refine lavcR_round ?_)
      | (refine lavc_cond rfl (fun _ => ?_) (fun hc => absurd hc (by decide)))
      | (refine lavc_cond rfl (fun hc => absurd hc (by decide)) (fun _ => ?_))
      | (simp only [↓reduceIte, Nat.reduceEqDiff, reduceCtorEq]))
    refine And.intro (by simp) ?_
    simp (disch := first | exact dch | fail) only [go_sem, Nat.reduceAdd, Nat.reduceSub, reduceIte, Nat.reduceEqDiff, Int.reduceToNat, Int.reduceBEq, Int.reduceBNe, aret, aretL, aret1, aenv]
    (repeat (with_reducible refine And.intro acl ?_))
    exact end0 (NR.v _) rfl
  have d4 : decide (ask > 4) = false := by rw [decide_eq_false_iff_not]; omega
  rw [if_neg (by omega)]
  cases t with
  | true =>
    rw [if_pos rfl]
    repeat (first
      | (with_reducible refine lops_step fun K hK => ?_; simp (disch := first | exact dch | fail) only [go_sem, Nat.reduceAdd, Nat.reduceSub, reduceIte, Nat.reduceEqDiff, Int.reduceToNat, Int.reduceBEq, Int.reduceBNe, d, d4]; (try (first | (refine And.intro (fun _ => ?_) (fun h => absurd h (by decide))) | (refine And.intro (fun h => absurd h (by decide)) (fun _ => ?_)))); (repeat (with_reducible refine And.intro acl ?_)); (first | (refine hK _ _ ?_) | (refine ⟨_, rfl, hK _ _ ?_⟩) | (refine Or.inl (hK _ _ ?_)) | (refine ⟨_, _, Or.inl (hx.go _), (by first | exact ⟨[], (List.append_nil _).symm⟩ | exact ⟨_, rfl⟩), hK _ _ ?_⟩) | (refine ⟨_, _, Or.inl (hx.go _), hK _ _ ?_⟩) | (refine ⟨_, _, Or.inl (hx.go _).weakQ, hK _ _ ?_⟩) | (refine ⟨_, _, Or.inl (wp.go _), (by first | exact ⟨[], (List.append_nil _).symm⟩ | exact ⟨_, rfl⟩), hK _ _ ?_⟩) | (refine ⟨_, _, Or.inl (wp.go _), hK _ _ ?_⟩) | (refine ⟨_, _, Or.inl (wp.go _).weakQ, hK _ _ ?_⟩)); clear hK K)
      | (with_reducible refine lops_nil ?_)
      | (with_reducible first | refine lavc_reg ?_ | refine lavc_seq ?_ | refine lavc_block ?_ | refine lavc_skip ?_ | refine lavc_exit ?_ | refine lavc_ret ?_ | refine lavcR_round ?_)
      | (refine lavc_cond rfl (fun _ => ?_) (fun hc => absurd hc (by decide)))
      | (refine lavc_cond rfl (fun hc => absurd hc (by decide)) (fun _ => ?_))
      | (simp only [↓reduceIte, Nat.reduceEqDiff, reduceCtorEq]))
    refine And.intro (by simp) ?_
    simp (disch := first | exact dch | fail) only [go_sem, Nat.reduceAdd, Nat.reduceSub, reduceIte, Nat.reduceEqDiff, Int.reduceToNat, Int.reduceBEq, Int.reduceBNe, aret, aretL, aret1, aenv]
    (repeat (with_reducible refine And.intro acl ?_))
    exact end0 (NR.v _) rfl
  | false =>
    rw [if_neg (by decide)]
    repeat (first
      | (with_reducible refine lops_step fun K hK => ?_; simp (disch := first | exact dch | fail) only [go_sem, Nat.reduceAdd, Nat.reduceSub, reduceIte, Nat.reduceEqDiff, Int.reduceToNat, Int.reduceBEq, Int.reduceBNe, d, d4]; (try (first | (refine And.intro (fun _ => ?_) (fun h => absurd h (by decide))) | (refine And.intro (fun h => absurd h (by decide)) (fun _ => ?_)))); (repeat (with_reducible refine And.intro acl ?_)); (first | (refine hK _ _ ?_) | (refine ⟨_, rfl, hK _ _ ?_⟩) | (refine Or.inl (hK _ _ ?_)) | (refine ⟨_, _, Or.inl (hx.go _), (by first | exact ⟨[], (List.append_nil _).symm⟩ | exact ⟨_, rfl⟩), hK _ _ ?_⟩) | (refine ⟨_, _, Or.inl (hx.go _), hK _ _ ?_⟩) | (refine ⟨_, _, Or.inl (hx.go _).weakQ, hK _ _ ?_⟩)); clear hK K)
      | (with_reducible refine lops_nil ?_)
      | (with_reducible first | refine lavc_reg ?_ | refine lavc_seq ?_ | refine lavc_block ?_ | refine lavc_skip ?_ | refine lavc_exit ?_ | refine lavc_ret ?_ | refine lavcR_round ?_)
      | (refine lavc_cond rfl (fun _ => ?_) (fun hc => absurd hc (by decide)))
      | (refine lavc_cond rfl (fun hc => absurd hc (by decide)) (fun _ => ?_))
      | (simp only [↓reduceIte, Nat.reduceEqDiff, reduceCtorEq]))
    refine And.intro (by simp) ?_
    simp (disch := first | exact dch | fail) only [go_sem, Nat.reduceAdd, Nat.reduceSub, reduceIte, Nat.reduceEqDiff, Int.reduceToNat, Int.reduceBEq, Int.reduceBNe, aret, aretL, aret1, aenv]
    (repeat (with_reducible refine And.intro acl ?_))
    exact end0 (NR.v _) rfl
open Go.Proofs
set_option linter.unusedVariables false
set_option linter.unusedSimpArgs false
set_option maxRecDepth 100000
set_option maxHeartbeats 4000000
abbrev Rule3 : Type := Int × ByteArray × ByteArray
def rulesA (l : List Rule3) : List AV := l.flatMap ruleA
theorem rulesA_length (l : List Rule3) : (rulesA l).length = l.length * 3 := by
  induction l with
  | nil => rfl
  | cons a l ih =>
    have : rulesA (a :: l) = ruleA a ++ rulesA l := rfl
    rw [this, List.length_append, ih]
    simp [ruleA]
    omega
theorem rulesA_at (l : List Rule3) (k : Nat) (h : k < l.length) : ((rulesA l).drop (k * 3)).take 3 = ruleA (l.getD k (0, ⟨#[]⟩, ⟨#[]⟩)) := by
  induction l generalizing k with
  | nil => exact absurd h (Nat.not_lt_zero _)
  | cons a l ih =>
    have e : rulesA (a :: l) = ruleA a ++ rulesA l := rfl
    rw [e]
    cases k with
    | zero => simp [ruleA]
    | succ k =>
      rw [show (k + 1) * 3 = k * 3 + 1 + 1 + 1 from by omega]
      have := ih k (by simpa using h)
      simp only [ruleA, List.cons_append, List.nil_append, List.drop_succ_cons] at this ⊢
      simpa using this
theorem NR.rulesA (l : List Rule3) : ∀ x ∈ rulesA l, NR x := by
  intro x hx
  simp only [Go.Abs.S.rulesA, List.mem_flatMap] at hx
  obtain ⟨r, _, hr⟩ := hx
  simp only [List.mem_cons, List.not_mem_nil, or_false] at hr
  rcases hr with rfl | rfl | rfl <;> exact NR.v _
/-- The first rule's error. -/
def chkAll (tx : ByteArray → ByteArray × Bool) (now : Int) : List Rule3 → Int
  | [] => 0
  | r :: l => if checkP tx now r = 0 then chkAll tx now l else checkP tx now r
theorem chkAll_step (tx : ByteArray → ByteArray × Bool) (now : Int) (l : List Rule3) (k : Nat) (h : k < l.length) : chkAll tx now (l.drop k) = if checkP tx now (l.getD k (0, ⟨#[]⟩, ⟨#[]⟩)) = 0 then chkAll tx now (l.drop (k + 1)) else checkP tx now (l.getD k (0, ⟨#[]⟩, ⟨#[]⟩)) := by
  rw [List.drop_eq_getElem_cons h, chkAll, List.getD_eq_getElem?_getD, List.getElem?_eq_getElem h]
  rfl
theorem NR.val4 (k : Int) (t : ByteArray) {N V : AV} (hN : NR N) (hV : NR V) : NR (.agg [ivC k, stA t, N, V]) := NR.agg (by
  intro x hx
  simp only [List.mem_cons, List.not_mem_nil, or_false] at hx
  rcases hx with rfl | rfl | rfl | rfl
  · exact NR.v _
  · exact NR.v _
  · exact hN
  · exact hV)
theorem Check_bad (k : Int) (t : ByteArray) (n1 : Nat) (c1 : List AV) (hc1 : ∀ x ∈ c1, NR x) (n2 : Nat) (c2 : List AV) (hc2 : ∀ x ∈ c2, NR x) (now : Int) (g : Int)
    (hg : PCall Tryd.prog glob 11 [.agg [ivC k, stA t, .vsl n1 c1 none, .vsl n2 c2 none]] (ivC g))
    (hb : k ≠ 6 ∨ g ≠ 0) (l : List Rule3) (c : Option Nat) :
    PCall Tryd.prog glob 8 [.agg [ivC k, stA t, .vsl n1 c1 none, .vsl n2 c2 none], ivC now, .vsl l.length (rulesA l) c] (ivC 2) := by
  refine PCall.of ctx.nr (List.forall_mem_cons.2 ⟨NR.val4 _ _ (NR.vsl hc1) (NR.vsl hc2), List.forall_mem_cons.2 ⟨NR.v _, List.forall_mem_cons.2 ⟨NR.vsl (NR.rulesA _), fun _ h => absurd h List.not_mem_nil⟩⟩⟩) (NR.v _) ?_
  refine lcall8 (by simp) 0 (Nat.le_refl _) ?_
  unfold lc8
  simp only [List.length_cons, List.length_nil, Nat.reduceAdd, Nat.reduceSub, List.replicate_succ, List.replicate_zero, List.cons_append, List.nil_append]
  by_cases h6 : k = 6
  · subst h6
    have h0 : g ≠ 0 := hb.resolve_left (fun h => h rfl)
    have d : ((g : Int) != 0) = true := by rw [bne_iff_ne, ne_eq]; omega
    repeat (first
      | (with_reducible refine lops_step fun K hK => ?_; simp (disch := first | exact dch | fail) only [go_sem, Nat.reduceAdd, Nat.reduceSub, reduceIte, Nat.reduceEqDiff, Int.reduceToNat, Int.reduceBEq, Int.reduceBNe, d, splice, List.take_succ_cons, List.take_zero, List.drop_succ_cons, List.drop_zero, List.drop_nil, List.cons_append, List.nil_append, List.append_nil, List.length_cons, List.length_nil, List.replicate_succ, List.replicate_zero, List.flatten_cons, List.flatten_nil, Nat.reduceMul, Nat.reduceAdd, Nat.reduceLeDiff]; (try (first | (refine And.intro (fun _ => ?_) (fun h => absurd h (by decide))) | (refine And.intro (fun h => absurd h (by decide)) (fun _ => ?_)))); (repeat (with_reducible refine And.intro acl ?_)); (first | (refine hK _ _ ?_) | (refine ⟨_, rfl, hK _ _ ?_⟩) | (refine Or.inl (hK _ _ ?_)) | (refine ⟨_, _, Or.inl (hg.go _), (by first | exact ⟨[], (List.append_nil _).symm⟩ | exact ⟨_, rfl⟩), hK _ _ ?_⟩) | (refine ⟨_, _, Or.inl (hg.go _), hK _ _ ?_⟩) | (refine ⟨_, _, Or.inl (hg.go _).weakQ, hK _ _ ?_⟩)); clear hK K)
      | (with_reducible refine lops_nil ?_)
      | (with_reducible first | refine lavc_reg ?_ | refine lavc_seq ?_ | refine lavc_block ?_ | refine lavc_skip ?_ | refine lavc_exit ?_ | refine lavc_ret ?_ | refine lavcR_round ?_)
      | (refine lavc_cond rfl (fun _ => ?_) (fun hc => absurd hc (by decide)))
      | (refine lavc_cond rfl (fun hc => absurd hc (by decide)) (fun _ => ?_))
      | (simp only [↓reduceIte, Nat.reduceEqDiff, reduceCtorEq]))
    refine And.intro (by simp) ?_
    simp (disch := first | exact dch | fail) only [go_sem, Nat.reduceAdd, Nat.reduceSub, reduceIte, Nat.reduceEqDiff, Int.reduceToNat, Int.reduceBEq, Int.reduceBNe, aret, aretL, aret1, aenv]
    (repeat (with_reducible refine And.intro acl ?_))
    exact end0 (NR.v _) rfl
  · have d : ((k : Int) != 6) = true := by rw [bne_iff_ne, ne_eq]; omega
    repeat (first
      | (with_reducible refine lops_step fun K hK => ?_; simp (disch := first | exact dch | fail) only [go_sem, Nat.reduceAdd, Nat.reduceSub, reduceIte, Nat.reduceEqDiff, Int.reduceToNat, Int.reduceBEq, Int.reduceBNe, d, splice, List.take_succ_cons, List.take_zero, List.drop_succ_cons, List.drop_zero, List.drop_nil, List.cons_append, List.nil_append, List.append_nil, List.length_cons, List.length_nil, List.replicate_succ, List.replicate_zero, List.flatten_cons, List.flatten_nil, Nat.reduceMul, Nat.reduceAdd, Nat.reduceLeDiff]; (try (first | (refine And.intro (fun _ => ?_) (fun h => absurd h (by decide))) | (refine And.intro (fun h => absurd h (by decide)) (fun _ => ?_)))); (repeat (with_reducible refine And.intro acl ?_)); (first | (refine hK _ _ ?_) | (refine ⟨_, rfl, hK _ _ ?_⟩) | (refine Or.inl (hK _ _ ?_))); clear hK K)
      | (with_reducible refine lops_nil ?_)
      | (with_reducible first | refine lavc_reg ?_ | refine lavc_seq ?_ | refine lavc_block ?_ | refine lavc_skip ?_ | refine lavc_exit ?_ | refine lavc_ret ?_ | refine lavcR_round ?_)
      | (refine lavc_cond rfl (fun _ => ?_) (fun hc => absurd hc (by decide)))
      | (refine lavc_cond rfl (fun hc => absurd hc (by decide)) (fun _ => ?_))
      | (simp only [↓reduceIte, Nat.reduceEqDiff, reduceCtorEq]))
    refine And.intro (by simp) ?_
    simp (disch := first | exact dch | fail) only [go_sem, Nat.reduceAdd, Nat.reduceSub, reduceIte, Nat.reduceEqDiff, Int.reduceToNat, Int.reduceBEq, Int.reduceBNe, aret, aretL, aret1, aenv]
    (repeat (with_reducible refine And.intro acl ?_))
    exact end0 (NR.v _) rfl
theorem Check_p (n1 : Nat) (c1 : List AV) (hc1 : ∀ x ∈ c1, NR x) (n2 : Nat) (c2 : List AV) (hc2 : ∀ x ∈ c2, NR x) (now : Int)
    (hg : PCall Tryd.prog glob 11 [.agg [ivC 6, stA ⟨#[]⟩, .vsl n1 c1 none, .vsl n2 c2 none]] (ivC 0))
    (tx : ByteArray → ByteArray × Bool) (ht : ∀ n, (tx n).1.size ≤ 1000000)
    (hx : ∀ name, PCall Tryd.prog glob 29 [claA (.vsl n1 c1 none) (.vsl n2 c2 none) now, stA name] (.tup [stA (tx name).1, .v (.bool (tx name).2)]))
    (l : List Rule3) (hl : l.length ≤ 1000) (c : Option Nat) :
    PCall Tryd.prog glob 8 [.agg [ivC 6, stA ⟨#[]⟩, .vsl n1 c1 none, .vsl n2 c2 none], ivC now, .vsl l.length (rulesA l) c] (ivC (chkAll tx now l)) := by
  refine PCall.of ctx.nr (List.forall_mem_cons.2 ⟨NR.val4 _ _ (NR.vsl hc1) (NR.vsl hc2), List.forall_mem_cons.2 ⟨NR.v _, List.forall_mem_cons.2 ⟨NR.vsl (NR.rulesA _), fun _ h => absurd h List.not_mem_nil⟩⟩⟩) (NR.v _) ?_
  refine lcall8 (by simp) 0 (Nat.le_refl _) ?_
  unfold lc8
  simp only [List.length_cons, List.length_nil, Nat.reduceAdd, Nat.reduceSub, List.replicate_succ, List.replicate_zero, List.cons_append, List.nil_append]
  have hlx := rulesA_length l
  have cp := fun r => check_p (.vsl n1 c1 none) (.vsl n2 c2 none) (NR.vsl hc1) (NR.vsl hc2) now tx ht hx r
  unfold claA ruleA at cp
  obtain ⟨V, hV⟩ : ∃ V, chkAll tx now l = V := ⟨_, rfl⟩
  rw [hV]
  repeat (first
    | (with_reducible refine lops_step fun K hK => ?_; simp (disch := first | exact dch | fail) only [go_sem, Nat.reduceAdd, Nat.reduceSub, reduceIte, Nat.reduceEqDiff, Int.reduceToNat, Int.reduceBEq, Int.reduceBNe, splice, List.take_succ_cons, List.take_zero, List.drop_succ_cons, List.drop_zero, List.drop_nil, List.cons_append, List.nil_append, List.append_nil, List.length_cons, List.length_nil, List.replicate_succ, List.replicate_zero, List.flatten_cons, List.flatten_nil, Nat.reduceMul, Nat.reduceAdd, Nat.reduceLeDiff]; (try (first | (refine And.intro (fun _ => ?_) (fun h => absurd h (by decide))) | (refine And.intro (fun h => absurd h (by decide)) (fun _ => ?_)))); (repeat (with_reducible refine And.intro acl ?_)); (first | (refine hK _ _ ?_) | (refine ⟨_, rfl, hK _ _ ?_⟩) | (refine Or.inl (hK _ _ ?_)) | (refine ⟨_, _, Or.inl (hg.go _), (by first | exact ⟨[], (List.append_nil _).symm⟩ | exact ⟨_, rfl⟩), hK _ _ ?_⟩) | (refine ⟨_, _, Or.inl (hg.go _), hK _ _ ?_⟩) | (refine ⟨_, _, Or.inl (hg.go _).weakQ, hK _ _ ?_⟩)); clear hK K)
    | (with_reducible refine lops_nil ?_)
    | (with_reducible first | refine lavc_reg ?_ | refine lavc_seq ?_ | refine lavc_block ?_ | refine lavc_skip ?_ | refine lavc_exit ?_ | refine lavc_ret ?_ | refine lavcR_round ?_)
    | (refine lavc_cond rfl (fun _ => ?_) (fun hc => absurd hc (by decide)))
    | (refine lavc_cond rfl (fun hc => absurd hc (by decide)) (fun _ => ?_))
    | (simp only [↓reduceIte, Nat.reduceEqDiff, reduceCtorEq]))
  refine lavc_loopM ms8_0 (fun m (x : Nat × AHeap) => m + x.1 = l.length ∧ chkAll tx now (l.drop x.1) = V) (fun x => [(25, ivC x.1)]) (fun x => [Blk.mk [ivC 6, stA ⟨#[]⟩, .vsl n1 c1 none, .vsl n2 c2 none] 0 true 26, Blk.mk [ivC 6, stA ⟨#[]⟩, .vsl n1 c1 none, .vsl n2 c2 none, ivC now] 0 true 52] ++ x.2) l.length (0, []) ⟨by omega, by rw [List.drop_zero]; exact hV⟩ ?_ ?_ ?_
  · simp only [ms8_0, putAll, blank, List.foldl_cons, List.foldl_nil, List.set_cons_succ, List.set_cons_zero, List.cons_append, List.nil_append, ALe, true_or, or_true, and_true, true_and, eq_self, reduceCtorEq, false_or]
    rfl
  · rfl
  rintro m ⟨k, gg⟩ ⟨hk, hi⟩
  simp only at hk hi ⊢
  simp only [ms8_0, putAll, blank, List.foldl_cons, List.foldl_nil, List.set_cons_succ, List.set_cons_zero, List.cons_append, List.nil_append]
  repeat (first
    | (with_reducible refine lops_step fun K hK => ?_; simp (disch := first | exact dch | fail) only [go_sem, Nat.reduceAdd, Nat.reduceSub, reduceIte, Nat.reduceEqDiff, Int.reduceToNat, Int.reduceBEq, Int.reduceBNe]; (repeat (with_reducible refine And.intro acl ?_)); (first | (refine hK _ _ ?_) | (refine ⟨_, rfl, hK _ _ ?_⟩) | (refine Or.inl (hK _ _ ?_))); clear hK K)
    | (with_reducible refine lops_nil ?_)
    | (with_reducible first | refine lavc_reg ?_ | refine lavc_seq ?_ | refine lavc_block ?_ | refine lavc_skip ?_ | refine lavc_exit ?_ | refine lavc_ret ?_ | refine lavcR_round ?_)
    | (simp only [↓reduceIte, Nat.reduceEqDiff, reduceCtorEq]))
  refine lavc_cond rfl (fun hc => ?_) (fun hc => ?_) <;> try simp only [decide_eq_true_eq, decide_eq_false_iff_not, Int.not_lt, Int.not_le, beq_iff_eq, bne_iff_ne, bne_eq_false_iff_eq, beq_eq_false_iff_ne, ne_eq, Bool.not_eq_true', Bool.not_eq_false'] at hc
  · have hkl : k < l.length := by omega
    have hat := rulesA_at l k hkl
    rw [chkAll_step tx now l k hkl] at hi
    obtain ⟨⟨ask, name, want⟩, hy⟩ : ∃ y, l.getD k (0, ⟨#[]⟩, ⟨#[]⟩) = y := ⟨_, rfl⟩
    rw [hy] at hat hi
    unfold ruleA at hat
    have cp := cp (ask, name, want)
    have e3 := i64n ((k : Int) + 1) (k + 1) (by omega) (by omega)
    obtain ⟨w, hw⟩ : ∃ w, checkP tx now (ask, name, want) = w := ⟨_, rfl⟩
    rw [hw] at cp hi
    by_cases h0 : w = 0
    · subst h0
      rw [if_pos rfl] at hi
      repeat (first
        | (with_reducible refine lops_step fun K hK => ?_; simp (disch := first | exact dch | fail) only [go_sem, Nat.reduceAdd, Nat.reduceSub, reduceIte, Nat.reduceEqDiff, Int.reduceToNat, Int.reduceBEq, Int.reduceBNe, hat, hlx, e3, get_concat, set_concat, List.nil_append]; (try (first | (refine And.intro (fun _ => ?_) (fun h => absurd h (by decide))) | (refine And.intro (fun h => absurd h (by decide)) (fun _ => ?_)))); (repeat (with_reducible refine And.intro acl ?_)); (first | (refine hK _ _ ?_) | (refine ⟨_, rfl, hK _ _ ?_⟩) | (refine Or.inl (hK _ _ ?_)) | (refine ⟨_, _, Or.inl (cp.go _), (by first | exact ⟨[], (List.append_nil _).symm⟩ | exact ⟨_, rfl⟩), hK _ _ ?_⟩) | (refine ⟨_, _, Or.inl (cp.go _), hK _ _ ?_⟩) | (refine ⟨_, _, Or.inl (cp.go _).weakQ, hK _ _ ?_⟩)); clear hK K)
        | (with_reducible refine lops_nil ?_)
        | (with_reducible first | refine lavc_reg ?_ | refine lavc_seq ?_ | refine lavc_block ?_ | refine lavc_skip ?_ | refine lavc_exit ?_ | refine lavc_ret ?_ | refine lavcR_round ?_)
        | (refine lavc_cond rfl (fun _ => ?_) (fun hc => absurd hc (by decide)))
        | (refine lavc_cond rfl (fun hc => absurd hc (by decide)) (fun _ => ?_))
        | (simp only [↓reduceIte, Nat.reduceEqDiff, reduceCtorEq]))
      refine ⟨m - 1, (k + 1, gg ++ [⟨[ivC ask, stA name, stA want], 0, true, 40⟩]), by omega, ⟨by show m - 1 + (k + 1) = l.length; omega, hi⟩, ?_, (by first | rfl | trivial)⟩
      simp only [ms8_0, putAll, blank, List.foldl_cons, List.foldl_nil, List.set_cons_succ, List.set_cons_zero, List.cons_append, List.nil_append, ALe, true_or, or_true, and_true, true_and, eq_self, reduceCtorEq, false_or]
    · rw [if_neg h0] at hi
      have d : ((w : Int) != 0) = true := by rw [bne_iff_ne, ne_eq]; omega
      repeat (first
        | (with_reducible refine lops_step fun K hK => ?_; simp (disch := first | exact dch | fail) only [go_sem, Nat.reduceAdd, Nat.reduceSub, reduceIte, Nat.reduceEqDiff, Int.reduceToNat, Int.reduceBEq, Int.reduceBNe, hat, hlx, d, e3, get_concat, set_concat, List.nil_append]; (try (first | (refine And.intro (fun _ => ?_) (fun h => absurd h (by decide))) | (refine And.intro (fun h => absurd h (by decide)) (fun _ => ?_)))); (repeat (with_reducible refine And.intro acl ?_)); (first | (refine hK _ _ ?_) | (refine ⟨_, rfl, hK _ _ ?_⟩) | (refine Or.inl (hK _ _ ?_)) | (refine ⟨_, _, Or.inl (cp.go _), (by first | exact ⟨[], (List.append_nil _).symm⟩ | exact ⟨_, rfl⟩), hK _ _ ?_⟩) | (refine ⟨_, _, Or.inl (cp.go _), hK _ _ ?_⟩) | (refine ⟨_, _, Or.inl (cp.go _).weakQ, hK _ _ ?_⟩)); clear hK K)
        | (with_reducible refine lops_nil ?_)
        | (with_reducible first | refine lavc_reg ?_ | refine lavc_seq ?_ | refine lavc_block ?_ | refine lavc_skip ?_ | refine lavc_exit ?_ | refine lavc_ret ?_ | refine lavcR_round ?_)
        | (refine lavc_cond rfl (fun _ => ?_) (fun hc => absurd hc (by decide)))
        | (refine lavc_cond rfl (fun hc => absurd hc (by decide)) (fun _ => ?_))
        | (simp only [↓reduceIte, Nat.reduceEqDiff, reduceCtorEq]))
      refine And.intro (by simp) ?_
      simp (disch := first | exact dch | fail) only [go_sem, Nat.reduceAdd, Nat.reduceSub, reduceIte, Nat.reduceEqDiff, Int.reduceToNat, Int.reduceBEq, Int.reduceBNe, aret, aretL, aret1, aenv]
      (repeat (with_reducible refine And.intro acl ?_))
      exact end0 (NR.v _) (by rw [← hi])
  · have hk2 : k = l.length := by omega
    rw [hk2, List.drop_length] at hi
    repeat (first
      | (with_reducible refine lops_step fun K hK => ?_; simp (disch := first | exact dch | fail) only [go_sem, Nat.reduceAdd, Nat.reduceSub, reduceIte, Nat.reduceEqDiff, Int.reduceToNat, Int.reduceBEq, Int.reduceBNe]; (try (first | (refine And.intro (fun _ => ?_) (fun h => absurd h (by decide))) | (refine And.intro (fun h => absurd h (by decide)) (fun _ => ?_)))); (repeat (with_reducible refine And.intro acl ?_)); (first | (refine hK _ _ ?_) | (refine ⟨_, rfl, hK _ _ ?_⟩) | (refine Or.inl (hK _ _ ?_))); clear hK K)
      | (with_reducible refine lops_nil ?_)
      | (with_reducible first | refine lavc_reg ?_ | refine lavc_seq ?_ | refine lavc_block ?_ | refine lavc_skip ?_ | refine lavc_exit ?_ | refine lavc_ret ?_ | refine lavcR_round ?_)
      | (refine lavc_cond rfl (fun _ => ?_) (fun hc => absurd hc (by decide)))
      | (refine lavc_cond rfl (fun hc => absurd hc (by decide)) (fun _ => ?_))
      | (simp only [↓reduceIte, Nat.reduceEqDiff, reduceCtorEq]))
    refine And.intro (by simp) ?_
    simp (disch := first | exact dch | fail) only [go_sem, Nat.reduceAdd, Nat.reduceSub, reduceIte, Nat.reduceEqDiff, Int.reduceToNat, Int.reduceBEq, Int.reduceBNe, aret, aretL, aret1, aenv]
    (repeat (with_reducible refine And.intro acl ?_))
    exact end0 (NR.v _) (by rw [← hi]; rfl)
abbrev issB : ByteArray := ⟨#[105, 115, 115]⟩
abbrev audB : ByteArray := ⟨#[97, 117, 100]⟩
abbrev nbfB : ByteArray := ⟨#[110, 98, 102]⟩
abbrev expB : ByteArray := ⟨#[101, 120, 112]⟩
def usualP (i a : ByteArray) : List Rule3 := [(1, issB, i), (1, audB, a), (3, nbfB, ⟨#[]⟩), (4, expB, ⟨#[]⟩)]
theorem Usual_p (i a : ByteArray) : PCall Tryd.prog glob 16 [stA i, stA a] (.vsl 4 (rulesA (usualP i a)) (some 4)) := by
  refine PCall.of ctx.nr (List.forall_mem_cons.2 ⟨NR.v _, List.forall_mem_cons.2 ⟨NR.v _, fun _ h => absurd h List.not_mem_nil⟩⟩) (NR.vsl (NR.rulesA _)) ?_
  refine lcall16 (by simp) 0 (Nat.le_refl _) ?_
  have hnr := NR.rulesA (usualP i a)
  unfold rulesA usualP ruleA at hnr ⊢
  simp only [List.flatMap_cons, List.flatMap_nil, List.cons_append, List.nil_append] at hnr ⊢
  unfold lc16
  simp only [List.length_cons, List.length_nil, Nat.reduceAdd, Nat.reduceSub, List.replicate_succ, List.replicate_zero, List.cons_append, List.nil_append]
  repeat (first
    | (with_reducible refine lops_step fun K hK => ?_; simp (disch := first | exact dch | fail) only [go_sem, Nat.reduceAdd, Nat.reduceSub, reduceIte, Nat.reduceEqDiff, Int.reduceToNat, Int.reduceBEq, Int.reduceBNe, splice, List.take_succ_cons, List.take_zero, List.drop_succ_cons, List.drop_zero, List.drop_nil, List.cons_append, List.nil_append, List.append_nil, List.length_cons, List.length_nil, List.replicate_succ, List.replicate_zero, List.flatten_cons, List.flatten_nil, Nat.reduceMul, Nat.reduceAdd, Nat.reduceLeDiff]; (try (first | (refine And.intro (fun _ => ?_) (fun h => absurd h (by decide))) | (refine And.intro (fun h => absurd h (by decide)) (fun _ => ?_)))); (repeat (with_reducible refine And.intro acl ?_)); (first | (refine hK _ _ ?_) | (refine ⟨_, rfl, hK _ _ ?_⟩) | (refine Or.inl (hK _ _ ?_))); clear hK K)
    | (with_reducible refine lops_nil ?_)
    | (with_reducible first | refine lavc_reg ?_ | refine lavc_seq ?_ | refine lavc_block ?_ | refine lavc_skip ?_ | refine lavc_exit ?_ | refine lavc_ret ?_ | refine lavcR_round ?_)
    | (refine lavc_cond rfl (fun _ => ?_) (fun hc => absurd hc (by decide)))
    | (refine lavc_cond rfl (fun hc => absurd hc (by decide)) (fun _ => ?_))
    | (simp only [↓reduceIte, Nat.reduceEqDiff, reduceCtorEq]))
  refine And.intro (by simp) ?_
  simp (disch := first | exact dch | fail) only [go_sem, Nat.reduceAdd, Nat.reduceSub, reduceIte, Nat.reduceEqDiff, Int.reduceToNat, Int.reduceBEq, Int.reduceBNe, aret, aretL, aret1, aenv]
  (repeat (with_reducible refine And.intro acl ?_))
  exact end0 (NR.vsl hnr) rfl
open Go.Proofs
open Go.Abs.H
open Go.Proofs.YtgmchiadphdlhaaDoor.Chk
set_option linter.unusedVariables false
set_option linter.unusedSimpArgs false
set_option maxRecDepth 100000
set_option maxHeartbeats 4000000
theorem pick_mem (ss : List ByteArray) (d : Nat) (hd : d < 2) (pre : List Nat) : ∀ s ∈ pick ss d pre, s ∈ ss := by
  intro s hs
  simp only [pick, List.mem_filterMap] at hs
  obtain ⟨k, _, hk⟩ := hs
  split at hk
  · simp only [Option.some.injEq] at hk
    rw [← hk, List.getD_eq_getElem?_getD, List.getElem?_eq_getElem (by omega)]
    exact List.getElem_mem _
  · exact absurd hk (by simp)
theorem nms_mem (ss : List ByteArray) : ∀ s ∈ nms ss, s ∈ ss := pick_mem ss 0 (by omega) _
theorem txs_mem (ss : List ByteArray) : ∀ s ∈ txs ss, s ∈ ss := pick_mem ss 1 (by omega) _
theorem txs_len (ss : List ByteArray) : (txs ss).length = (nms ss).length := pick_len ss 1 0 _

/-- A name's text, of a page of texts. -/
def txP (N X : List ByteArray) (name : ByteArray) : ByteArray × Bool := if idxK N name 0 < 0 then (⟨#[]⟩, false) else (X.getD (idxK N name 0).toNat ⟨#[]⟩, true)
theorem textT_p (N X : List ByteArray) (hX : X.length = N.length) (hl : N.length ≤ 1000) (now : Int) (name : ByteArray) :
    PCall Tryd.prog glob 29 [claA (.vsl N.length (strs N) none) (.vsl N.length (vals X) none) now, stA name] (.tup [stA (txP N X name).1, .v (.bool (txP N X name).2)]) := by
  have g := get_p N X hX hl name
  unfold getA at g
  unfold txP
  split at g
  · rename_i h
    rw [if_pos h]
    exact text_p _ _ (NR.vsl (NR.strs _)) (NR.vsl (NR.valsX _)) now name 0 ⟨#[]⟩ nlA nlA (.inl rfl) (.inl rfl) false g
  · rename_i h
    rw [if_neg h]
    exact text_p _ _ (NR.vsl (NR.strs _)) (NR.vsl (NR.valsX _)) now name 4 (X.getD (idxK N name 0).toNat ⟨#[]⟩) nlA nlA (.inl rfl) (.inl rfl) true g
theorem txP_size (N X : List ByteArray) (hx : ∀ s ∈ X, s.size ≤ 1000000) (name : ByteArray) : (txP N X name).1.size ≤ 1000000 := by
  unfold txP
  split
  · exact Nat.zero_le _
  · simp only
    by_cases h : (idxK N name 0).toNat < X.length
    · rw [List.getD_eq_getElem?_getD, List.getElem?_eq_getElem h]
      exact hx _ (List.getElem_mem h)
    · rw [List.getD_eq_getElem?_getD, List.getElem?_eq_none (by omega)]
      exact Nat.zero_le _
/-- What rules say of a page of texts. -/
def chkPg (N X : List ByteArray) (now : Int) (l : List Rule3) : Int := if goodPg N X = 0 then chkAll (txP N X) now l else 2
theorem CheckT_p (N X : List ByteArray) (hX : X.length = N.length) (hl : N.length ≤ 1000) (hz : ∀ s ∈ N, s.size ≤ 1000000) (hx : ∀ s ∈ X, s.size ≤ 1000000) (now : Int) (l : List Rule3) (hll : l.length ≤ 1000) (c : Option Nat) :
    PCall Tryd.prog glob 8 [pageA N X, ivC now, .vsl l.length (rulesA l) c] (ivC (chkPg N X now l)) := by
  have g := Good_p N X hX hl hz hx
  unfold chkPg
  by_cases h : goodPg N X = 0
  · rw [if_pos h]
    rw [h] at g
    exact Check_p _ _ (NR.strs _) _ _ (NR.valsX _) now g (txP N X) (txP_size N X hx) (textT_p N X hX hl now) l hll c
  · rw [if_neg h]
    exact Check_bad _ _ _ _ (NR.strs _) _ _ (NR.valsX _) now _ g (.inr h) l c
/-- The texts that claims are made of. -/
def mk8 (i a x y : ByteArray) : List ByteArray := [issB, i, audB, a, nbfB, x, expB, y]
abbrev zeroA : AV := .agg [ivC 0, stA ⟨#[]⟩, nlA, nlA]
/-- A page and 0, or none and what is wrong. -/
def madeA (ss : List ByteArray) : AV := if goodPg (nms ss) (txs ss) = 0 then .tup [pageA (nms ss) (txs ss), ivC 0] else .tup [zeroA, ivC (goodPg (nms ss) (txs ss))]
theorem NR.zeroA : NR zeroA := NR.agg (by intro c hc; simp only [List.mem_cons, List.not_mem_nil, or_false] at hc; rcases hc with rfl | rfl | rfl | rfl <;> exact NR.v _)
theorem NR.t2n {a b : AV} (ha : NR a) (hb : NR b) : NR (.tup [a, b]) := NR.tup (by intro c hc; simp only [List.mem_cons, List.not_mem_nil, or_false] at hc; rcases hc with rfl | rfl; exact ha; exact hb)
theorem NR.madeA (ss : List ByteArray) : NR (madeA ss) := by
  unfold Go.Abs.S.madeA
  split
  · exact NR.t2n (NR.pageA _ _) (NR.v _)
  · exact NR.t2n NR.zeroA (NR.v _)
theorem make_nr (i a : ByteArray) (n m : Int) (more : List ByteArray) (c : Option Nat) : ∀ x ∈ [stA i, stA a, ivC n, ivC m, .vsl more.length (strs more) c], NR x := by
  intro x hx
  simp only [List.mem_cons, List.not_mem_nil, or_false] at hx
  rcases hx with rfl | rfl | rfl | rfl | rfl
  · exact NR.v _
  · exact NR.v _
  · exact NR.v _
  · exact NR.v _
  · exact NR.vsl (NR.strs _)
theorem Make_bad1 (i a : ByteArray) (n m : Int) (h : ¬ (tFirst ≤ n ∧ n ≤ tLast)) (more : List ByteArray) (c : Option Nat) :
    PCall Tryd.prog glob 12 [stA i, stA a, ivC n, ivC m, .vsl more.length (strs more) c] (.tup [zeroA, ivC 12]) := by
  refine PCall.of ctx.nr (make_nr i a n m more c) (NR.t2n NR.zeroA (NR.v _)) ?_
  refine lcall12 (by simp) 0 (Nat.le_refl _) ?_
  unfold lc12
  simp only [List.length_cons, List.length_nil, Nat.reduceAdd, Nat.reduceSub, List.replicate_succ, List.replicate_zero, List.cons_append, List.nil_append]
  have tb := Text_bad n h
  repeat (first
    | (with_reducible refine lops_step fun K hK => ?_; simp (disch := first | exact dch | fail) only [go_sem, Nat.reduceAdd, Nat.reduceSub, reduceIte, Nat.reduceEqDiff, Int.reduceToNat, Int.reduceBEq, Int.reduceBNe]; (try (first | (refine And.intro (fun _ => ?_) (fun h => absurd h (by decide))) | (refine And.intro (fun h => absurd h (by decide)) (fun _ => ?_)))); (repeat (with_reducible refine And.intro acl ?_)); (first | (refine hK _ _ ?_) | (refine ⟨_, rfl, hK _ _ ?_⟩) | (refine Or.inl (hK _ _ ?_)) | (refine ⟨_, _, Or.inl (tb.go _), (by first | exact ⟨[], (List.append_nil _).symm⟩ | exact ⟨_, rfl⟩), hK _ _ ?_⟩) | (refine ⟨_, _, Or.inl (tb.go _), hK _ _ ?_⟩) | (refine ⟨_, _, Or.inl (tb.go _).weakQ, hK _ _ ?_⟩)); clear hK K)
    | (with_reducible refine lops_nil ?_)
    | (with_reducible first | refine lavc_reg ?_ | refine lavc_seq ?_ | refine lavc_block ?_ | refine lavc_skip ?_ | refine lavc_exit ?_ | refine lavc_ret ?_ | refine lavcR_round ?_)
    | (refine lavc_cond rfl (fun _ => ?_) (fun hc => absurd hc (by decide)))
    | (refine lavc_cond rfl (fun hc => absurd hc (by decide)) (fun _ => ?_))
    | (simp only [↓reduceIte, Nat.reduceEqDiff, reduceCtorEq]))
  refine And.intro (by simp) ?_
  simp (disch := first | exact dch | fail) only [go_sem, Nat.reduceAdd, Nat.reduceSub, reduceIte, Nat.reduceEqDiff, Int.reduceToNat, Int.reduceBEq, Int.reduceBNe, aret, aretL, aret1, aenv]
  (repeat (with_reducible refine And.intro acl ?_))
  exact end0 (NR.t2n NR.zeroA (NR.v _)) rfl
theorem Make_bad2 (i a : ByteArray) (t : Mom) (ht : t.ok) (m : Int) (h : ¬ (tFirst ≤ m ∧ m ≤ tLast)) (more : List ByteArray) (c : Option Nat) :
    PCall Tryd.prog glob 12 [stA i, stA a, ivC (secs t), ivC m, .vsl more.length (strs more) c] (.tup [zeroA, ivC 12]) := by
  refine PCall.of ctx.nr (make_nr i a _ m more c) (NR.t2n NR.zeroA (NR.v _)) ?_
  refine lcall12 (by simp) 0 (Nat.le_refl _) ?_
  unfold lc12
  simp only [List.length_cons, List.length_nil, Nat.reduceAdd, Nat.reduceSub, List.replicate_succ, List.replicate_zero, List.cons_append, List.nil_append]
  have tb := Text_bad m h
  have tp := Text_p t ht
  repeat (first
    | (with_reducible refine lops_step fun K hK => ?_; simp (disch := first | exact dch | fail) only [go_sem, Nat.reduceAdd, Nat.reduceSub, reduceIte, Nat.reduceEqDiff, Int.reduceToNat, Int.reduceBEq, Int.reduceBNe]; (try (first | (refine And.intro (fun _ => ?_) (fun h => absurd h (by decide))) | (refine And.intro (fun h => absurd h (by decide)) (fun _ => ?_)))); (repeat (with_reducible refine And.intro acl ?_)); (first | (refine hK _ _ ?_) | (refine ⟨_, rfl, hK _ _ ?_⟩) | (refine Or.inl (hK _ _ ?_)) | (refine ⟨_, _, Or.inl (tp.go _), (by first | exact ⟨[], (List.append_nil _).symm⟩ | exact ⟨_, rfl⟩), hK _ _ ?_⟩) | (refine ⟨_, _, Or.inl (tp.go _), hK _ _ ?_⟩) | (refine ⟨_, _, Or.inl (tp.go _).weakQ, hK _ _ ?_⟩) | (refine ⟨_, _, Or.inl (tb.go _), (by first | exact ⟨[], (List.append_nil _).symm⟩ | exact ⟨_, rfl⟩), hK _ _ ?_⟩) | (refine ⟨_, _, Or.inl (tb.go _), hK _ _ ?_⟩) | (refine ⟨_, _, Or.inl (tb.go _).weakQ, hK _ _ ?_⟩)); clear hK K)
    | (with_reducible refine lops_nil ?_)
    | (with_reducible first | refine lavc_reg ?_ | refine lavc_seq ?_ | refine lavc_block ?_ | refine lavc_skip ?_ | refine lavc_exit ?_ | refine lavc_ret ?_ | refine lavcR_round ?_)
    | (refine lavc_cond rfl (fun _ => ?_) (fun hc => absurd hc (by decide)))
    | (refine lavc_cond rfl (fun hc => absurd hc (by decide)) (fun _ => ?_))
    | (simp only [↓reduceIte, Nat.reduceEqDiff, reduceCtorEq]))
  refine And.intro (by simp) ?_
  simp (disch := first | exact dch | fail) only [go_sem, Nat.reduceAdd, Nat.reduceSub, reduceIte, Nat.reduceEqDiff, Int.reduceToNat, Int.reduceBEq, Int.reduceBNe, aret, aretL, aret1, aenv]
  (repeat (with_reducible refine And.intro acl ?_))
  exact end0 (NR.t2n NR.zeroA (NR.v _)) rfl
theorem Make_p (i a : ByteArray) (t u : Mom) (ht : t.ok) (hu : u.ok) (more : List ByteArray) (c : Option Nat) (hm : more.length ≤ 100) (hi : i.size ≤ 1000000) (ha : a.size ≤ 1000000) (hs : ∀ s ∈ more, s.size ≤ 1000000) :
    PCall Tryd.prog glob 12 [stA i, stA a, ivC (secs t), ivC (secs u), .vsl more.length (strs more) c] (madeA (mk8 i a (strOf (txt t)) (strOf (txt u)) ++ more)) := by
  refine PCall.of ctx.nr (make_nr i a _ _ more c) (NR.madeA _) ?_
  have tp := Text_p t ht
  have up := Text_p u hu
  have zt : (strOf (txt t)).size = 20 := by rw [str_size, txt_length]
  have zu : (strOf (txt u)).size = 20 := by rw [str_size, txt_length]
  refine lcall12 (by simp) 0 (Nat.le_refl _) ?_
  unfold lc12
  simp only [List.length_cons, List.length_nil, Nat.reduceAdd, Nat.reduceSub, List.replicate_succ, List.replicate_zero, List.cons_append, List.nil_append]
  obtain ⟨x, hx⟩ : ∃ x, strOf (txt t) = x := ⟨_, rfl⟩
  obtain ⟨y, hy⟩ : ∃ y, strOf (txt u) = y := ⟨_, rfl⟩
  rw [hx] at tp zt ⊢
  rw [hy] at up zu ⊢
  obtain ⟨n, hn⟩ : ∃ n, secs t = n := ⟨_, rfl⟩
  obtain ⟨m, hm'⟩ : ∃ n, secs u = n := ⟨_, rfl⟩
  rw [hn] at tp ⊢
  rw [hm'] at up ⊢
  have hall : ∀ s ∈ mk8 i a x y ++ more, s.size ≤ 1000000 := by
    intro s h
    rw [List.mem_append] at h
    rcases h with h | h
    · simp only [mk8, List.mem_cons, List.not_mem_nil, or_false] at h
      rcases h with rfl | rfl | rfl | rfl | rfl | rfl | rfl | rfl
      all_goals first | assumption | omega | decide
    · exact hs s h
  have hT : (mk8 i a x y ++ more).length = 8 + more.length := by rw [List.length_append]; rfl
  have cc := concatS_p [.vsl 8 (strs (mk8 i a x y)) (some 8), .vsl more.length (strs more) c] (some 2) [mk8 i a x y, more] (RwsS.cons rfl (RwsS.cons rfl RwsS.nil)) (mk8 i a x y ++ more) (by simp) (by omega) (by omega) (show 2 ≤ 1000000 by decide)
  obtain ⟨T, hT2⟩ : ∃ T, mk8 i a x y ++ more = T := ⟨_, rfl⟩
  rw [hT2] at cc hT hall ⊢
  have po := pageOf_p T none (by omega)

  have hlen : (nms T).length ≤ 1000 := by
    refine Nat.le_trans (Nat.le_trans (pick_le T 0 _) ?_) (show T.length ≤ 1000 by omega)
    rw [List.length_range]
    unfold parts
    omega
  have gp := Good_p (nms T) (txs T) (txs_len T) hlen (fun s h => hall s (nms_mem T s h)) (fun s h => hall s (txs_mem T s h))
  have hnr := NR.madeA T
  unfold madeA at hnr ⊢
  unfold pageA at po gp hnr ⊢
  unfold strs at cc
  simp only [mk8, List.map_cons, List.map_nil] at cc
  have cc : PCall Tryd.prog glob 25 [.vsl 2 [.vsl 8 [stA issB, stA i, stA audB, stA a, stA nbfB, stA x, stA expB, stA y] (some 8), .vsl more.length (strs more) c] (some 2)] (.vsl T.length (strs T) none) := cc
  obtain ⟨g, hg⟩ : ∃ g, goodPg (nms T) (txs T) = g := ⟨_, rfl⟩
  rw [hg] at gp hnr ⊢
  by_cases h0 : g = 0
  · subst h0
    rw [if_pos rfl] at hnr ⊢
    repeat (first
      | (with_reducible refine lops_step fun K hK => ?_; simp (disch := first | exact dch | fail) only [go_sem, Nat.reduceAdd, Nat.reduceSub, reduceIte, Nat.reduceEqDiff, Int.reduceToNat, Int.reduceBEq, Int.reduceBNe, List.replicate_succ, List.replicate_zero, List.flatten_cons, List.flatten_nil, List.cons_append, List.nil_append]; (try (first | (refine And.intro (fun _ => ?_) (fun h => absurd h (by decide))) | (refine And.intro (fun h => absurd h (by decide)) (fun _ => ?_)))); (repeat (with_reducible refine And.intro acl ?_)); (first | (refine hK _ _ ?_) | (refine ⟨_, rfl, hK _ _ ?_⟩) | (refine Or.inl (hK _ _ ?_)) | (refine ⟨_, _, Or.inl (tp.go _), (by first | exact ⟨[], (List.append_nil _).symm⟩ | exact ⟨_, rfl⟩), hK _ _ ?_⟩) | (refine ⟨_, _, Or.inl (tp.go _), hK _ _ ?_⟩) | (refine ⟨_, _, Or.inl (tp.go _).weakQ, hK _ _ ?_⟩) | (refine ⟨_, _, Or.inl (up.go _), (by first | exact ⟨[], (List.append_nil _).symm⟩ | exact ⟨_, rfl⟩), hK _ _ ?_⟩) | (refine ⟨_, _, Or.inl (up.go _), hK _ _ ?_⟩) | (refine ⟨_, _, Or.inl (up.go _).weakQ, hK _ _ ?_⟩) | (refine ⟨_, _, Or.inl (cc.go _), (by first | exact ⟨[], (List.append_nil _).symm⟩ | exact ⟨_, rfl⟩), hK _ _ ?_⟩) | (refine ⟨_, _, Or.inl (cc.go _), hK _ _ ?_⟩) | (refine ⟨_, _, Or.inl (cc.go _).weakQ, hK _ _ ?_⟩) | (refine ⟨_, _, Or.inl (po.go _), (by first | exact ⟨[], (List.append_nil _).symm⟩ | exact ⟨_, rfl⟩), hK _ _ ?_⟩) | (refine ⟨_, _, Or.inl (po.go _), hK _ _ ?_⟩) | (refine ⟨_, _, Or.inl (po.go _).weakQ, hK _ _ ?_⟩) | (refine ⟨_, _, Or.inl (gp.go _), (by first | exact ⟨[], (List.append_nil _).symm⟩ | exact ⟨_, rfl⟩), hK _ _ ?_⟩) | (refine ⟨_, _, Or.inl (gp.go _), hK _ _ ?_⟩) | (refine ⟨_, _, Or.inl (gp.go _).weakQ, hK _ _ ?_⟩)); clear hK K)
      | (with_reducible refine lops_nil ?_)
      | (with_reducible first | refine lavc_reg ?_ | refine lavc_seq ?_ | refine lavc_block ?_ | refine lavc_skip ?_ | refine lavc_exit ?_ | refine lavc_ret ?_ | refine lavcR_round ?_)
      | (refine lavc_cond rfl (fun _ => ?_) (fun hc => absurd hc (by decide)))
      | (refine lavc_cond rfl (fun hc => absurd hc (by decide)) (fun _ => ?_))
      | (simp only [↓reduceIte, Nat.reduceEqDiff, reduceCtorEq]))
    refine And.intro (by simp) ?_
    simp (disch := first | exact dch | fail) only [go_sem, Nat.reduceAdd, Nat.reduceSub, reduceIte, Nat.reduceEqDiff, Int.reduceToNat, Int.reduceBEq, Int.reduceBNe, aret, aretL, aret1, aenv]
    (repeat (with_reducible refine And.intro acl ?_))
    exact end0 hnr rfl
  · rw [if_neg h0] at hnr ⊢
    have d : ((g : Int) != 0) = true := by rw [bne_iff_ne, ne_eq]; omega
    repeat (first
      | (with_reducible refine lops_step fun K hK => ?_; simp (disch := first | exact dch | fail) only [go_sem, Nat.reduceAdd, Nat.reduceSub, reduceIte, Nat.reduceEqDiff, Int.reduceToNat, Int.reduceBEq, Int.reduceBNe, d, List.replicate_succ, List.replicate_zero, List.flatten_cons, List.flatten_nil, List.cons_append, List.nil_append]; (try (first | (refine And.intro (fun _ => ?_) (fun h => absurd h (by decide))) | (refine And.intro (fun h => absurd h (by decide)) (fun _ => ?_)))); (repeat (with_reducible refine And.intro acl ?_)); (first | (refine hK _ _ ?_) | (refine ⟨_, rfl, hK _ _ ?_⟩) | (refine Or.inl (hK _ _ ?_)) | (refine ⟨_, _, Or.inl (tp.go _), (by first | exact ⟨[], (List.append_nil _).symm⟩ | exact ⟨_, rfl⟩), hK _ _ ?_⟩) | (refine ⟨_, _, Or.inl (tp.go _), hK _ _ ?_⟩) | (refine ⟨_, _, Or.inl (tp.go _).weakQ, hK _ _ ?_⟩) | (refine ⟨_, _, Or.inl (up.go _), (by first | exact ⟨[], (List.append_nil _).symm⟩ | exact ⟨_, rfl⟩), hK _ _ ?_⟩) | (refine ⟨_, _, Or.inl (up.go _), hK _ _ ?_⟩) | (refine ⟨_, _, Or.inl (up.go _).weakQ, hK _ _ ?_⟩) | (refine ⟨_, _, Or.inl (cc.go _), (by first | exact ⟨[], (List.append_nil _).symm⟩ | exact ⟨_, rfl⟩), hK _ _ ?_⟩) | (refine ⟨_, _, Or.inl (cc.go _), hK _ _ ?_⟩) | (refine ⟨_, _, Or.inl (cc.go _).weakQ, hK _ _ ?_⟩) | (refine ⟨_, _, Or.inl (po.go _), (by first | exact ⟨[], (List.append_nil _).symm⟩ | exact ⟨_, rfl⟩), hK _ _ ?_⟩) | (refine ⟨_, _, Or.inl (po.go _), hK _ _ ?_⟩) | (refine ⟨_, _, Or.inl (po.go _).weakQ, hK _ _ ?_⟩) | (refine ⟨_, _, Or.inl (gp.go _), (by first | exact ⟨[], (List.append_nil _).symm⟩ | exact ⟨_, rfl⟩), hK _ _ ?_⟩) | (refine ⟨_, _, Or.inl (gp.go _), hK _ _ ?_⟩) | (refine ⟨_, _, Or.inl (gp.go _).weakQ, hK _ _ ?_⟩)); clear hK K)
      | (with_reducible refine lops_nil ?_)
      | (with_reducible first | refine lavc_reg ?_ | refine lavc_seq ?_ | refine lavc_block ?_ | refine lavc_skip ?_ | refine lavc_exit ?_ | refine lavc_ret ?_ | refine lavcR_round ?_)
      | (refine lavc_cond rfl (fun _ => ?_) (fun hc => absurd hc (by decide)))
      | (refine lavc_cond rfl (fun hc => absurd hc (by decide)) (fun _ => ?_))
      | (simp only [↓reduceIte, Nat.reduceEqDiff, reduceCtorEq]))
    refine And.intro (by simp) ?_
    simp (disch := first | exact dch | fail) only [go_sem, Nat.reduceAdd, Nat.reduceSub, reduceIte, Nat.reduceEqDiff, Int.reduceToNat, Int.reduceBEq, Int.reduceBNe, aret, aretL, aret1, aenv]
    (repeat (with_reducible refine And.intro acl ?_))
    exact end0 hnr rfl
open Go.Proofs
open Go.Abs.H
open Go.Proofs.YtgmchiadphdlhaaDoor.Chk
set_option linter.unusedVariables false
set_option linter.unusedSimpArgs false
set_option maxRecDepth 100000
set_option maxHeartbeats 4000000
def t0 : Mom := ⟨⟨1970, 1, 1⟩, 0, 0, 0⟩
def t5 : Mom := ⟨⟨1970, 1, 1⟩, 0, 0, 5⟩
theorem t0_ok : t0.ok := by unfold Mom.ok Date.ok; decide
theorem t5_ok : t5.ok := by unfold Mom.ok Date.ok; decide
theorem t0_secs : secs t0 = 0 := by decide
theorem t5_secs : secs t5 = 5 := by decide
abbrev iB : ByteArray := ⟨#[105]⟩
abbrev aB : ByteArray := ⟨#[97]⟩
theorem ex_good : goodPg (nms (mk8 iB aB (strOf (txt t0)) (strOf (txt t5)) ++ [])) (txs (mk8 iB aB (strOf (txt t0)) (strOf (txt t5)) ++ [])) = 0 := by decide +kernel
theorem nms8 (a b c d e f g h : ByteArray) : nms [a, b, c, d, e, f, g, h] = [a, c, e, g] := by
  have hp : parts 8 = 4 := by decide
  unfold nms
  rw [show [a, b, c, d, e, f, g, h].length = 8 from rfl, hp]
  rfl
theorem txs8 (a b c d e f g h : ByteArray) : txs [a, b, c, d, e, f, g, h] = [b, d, f, h] := by
  have hp : parts 8 = 4 := by decide
  unfold txs
  rw [show [a, b, c, d, e, f, g, h].length = 8 from rfl, hp]
  rfl
theorem page2 (a b : ByteArray) : pageA (nms [a, b]) (txs [a, b]) = .agg [ivC 6, stA ⟨#[]⟩, .vsl 1 [stA a] none, .vsl 1 [ivC 4, stA b, nlA, nlA] none] := by
  have hp : parts 2 = 1 := by decide
  unfold nms txs
  rw [show [a, b].length = 2 from rfl, hp]
  rfl
theorem chkAll_cons (tx : ByteArray → ByteArray × Bool) (now : Int) (r : Rule3) (l : List Rule3) : chkAll tx now (r :: l) = if checkP tx now r = 0 then chkAll tx now l else checkP tx now r := rfl
theorem chk3 (tx : ByteArray → ByteArray × Bool) (now : Int) (name want s : ByteArray) (n : Int) (h : tx name = (s, true)) (hr : readP s = (n, 0)) : checkP tx now (3, name, want) = if now < n then 13 else 0 := by
  unfold checkP wrongP
  rw [h]
  simp only
  rw [hr]
  by_cases hn : now < n
  · simp [hn]
  · simp [hn]
theorem chk4 (tx : ByteArray → ByteArray × Bool) (now : Int) (name want s : ByteArray) (n : Int) (h : tx name = (s, true)) (hr : readP s = (n, 0)) : checkP tx now (4, name, want) = if n ≤ now then 14 else 0 := by
  unfold checkP wrongP
  rw [h]
  simp only
  rw [hr]
  by_cases hn : n ≤ now
  · simp [hn]
  · simp [hn]
theorem chk1 (tx : ByteArray → ByteArray × Bool) (now : Int) (name want s : ByteArray) (h : tx name = (s, true)) : checkP tx now (1, name, want) = if s = want then 0 else 15 := by
  unfold checkP wrongP
  rw [h]
  simp
theorem ex_chk : chkPg (nms (mk8 iB aB (strOf (txt t0)) (strOf (txt t5)) ++ [])) (txs (mk8 iB aB (strOf (txt t0)) (strOf (txt t5)) ++ [])) 5 (usualP iB aB) = 14 := by
  unfold chkPg
  rw [if_pos ex_good]
  have r0 := read_txt t0 t0_ok
  have r5 := read_txt t5 t5_ok
  rw [t0_secs] at r0
  rw [t5_secs] at r5
  obtain ⟨A, hA⟩ : ∃ A, strOf (txt t0) = A := ⟨_, rfl⟩
  obtain ⟨B, hB⟩ : ∃ A, strOf (txt t5) = A := ⟨_, rfl⟩
  rw [hA] at r0 ⊢
  rw [hB] at r5 ⊢
  have eN := nms8 issB iB audB aB nbfB A expB B
  have eX := txs8 issB iB audB aB nbfB A expB B
  rw [show mk8 iB aB A B ++ [] = [issB, iB, audB, aB, nbfB, A, expB, B] from rfl]
  rw [eN, eX]
  have i1 : idxK [issB, audB, nbfB, expB] issB 0 = 0 := by decide
  have i2 : idxK [issB, audB, nbfB, expB] audB 0 = 1 := by decide
  have i3 : idxK [issB, audB, nbfB, expB] nbfB 0 = 2 := by decide
  have i4 : idxK [issB, audB, nbfB, expB] expB 0 = 3 := by decide
  have x1 : txP [issB, audB, nbfB, expB] [iB, aB, A, B] issB = (iB, true) := by unfold txP; rw [i1]; rfl
  have x2 : txP [issB, audB, nbfB, expB] [iB, aB, A, B] audB = (aB, true) := by unfold txP; rw [i2]; rfl
  have x3 : txP [issB, audB, nbfB, expB] [iB, aB, A, B] nbfB = (A, true) := by unfold txP; rw [i3]; rfl
  have x4 : txP [issB, audB, nbfB, expB] [iB, aB, A, B] expB = (B, true) := by unfold txP; rw [i4]; rfl
  unfold usualP
  rw [chkAll_cons, chk1 _ _ _ _ _ x1, if_pos rfl, if_pos rfl, chkAll_cons, chk1 _ _ _ _ _ x2, if_pos rfl, if_pos rfl, chkAll_cons, chk3 _ _ _ _ _ _ x3 r0, if_neg (show ¬ (5 : Int) < 0 by decide), if_pos rfl, chkAll_cons, chk4 _ _ _ _ _ _ x4 r5]
  rfl
theorem awake_p : PCall Tryd.prog glob 6 [] (.v (.bool true)) := by
  refine PCall.of ctx.nr nrs (NR.v _) ?_
  refine lcall6 (by simp) 0 (Nat.le_refl _) ?_
  unfold lc6
  simp only [List.length_cons, List.length_nil, Nat.reduceAdd, Nat.reduceSub, List.replicate_succ, List.replicate_zero, List.cons_append, List.nil_append]
  have mp := (Make_p iB aB t0 t5 t0_ok t5_ok [] none (by decide) (by decide) (by decide) (fun _ h => absurd h List.not_mem_nil)).les (args := [stA iB, stA aB, ivC (secs t0), ivC (secs t5), .v (.slice none 0 0)]) ⟨AvLe.refl _, AvLe.refl _, AvLe.refl _, AvLe.refl _, AvLe.nil, trivial⟩
  rw [t0_secs, t5_secs] at mp
  unfold madeA at mp
  rw [if_pos ex_good] at mp
  have hsz : ∀ s ∈ mk8 iB aB (strOf (txt t0)) (strOf (txt t5)) ++ [], s.size ≤ 1000000 := by decide +kernel
  have hln : (nms (mk8 iB aB (strOf (txt t0)) (strOf (txt t5)) ++ [])).length ≤ 1000 := by decide +kernel
  have cp := CheckT_p (nms (mk8 iB aB (strOf (txt t0)) (strOf (txt t5)) ++ [])) (txs (mk8 iB aB (strOf (txt t0)) (strOf (txt t5)) ++ [])) (txs_len _) hln (fun s h => hsz s (nms_mem _ s h)) (fun s h => hsz s (txs_mem _ s h)) 5 (usualP iB aB) (by decide) (some 4)
  rw [ex_chk] at cp
  have up := Usual_p iB aB
  obtain ⟨N, hN⟩ : ∃ N, nms (mk8 iB aB (strOf (txt t0)) (strOf (txt t5)) ++ []) = N := ⟨_, rfl⟩
  obtain ⟨X, hX⟩ : ∃ N, txs (mk8 iB aB (strOf (txt t0)) (strOf (txt t5)) ++ []) = N := ⟨_, rfl⟩
  rw [hN, hX] at mp cp
  unfold pageA at mp cp
  have cp : PCall Tryd.prog glob 8 [.agg [ivC 6, stA ⟨#[]⟩, .vsl N.length (strs N) none, .vsl N.length (vals X) none], ivC 5, .vsl 4 (rulesA (usualP iB aB)) (some 4)] (ivC 14) := cp
  repeat (first
    | (with_reducible refine lops_step fun K hK => ?_; simp (disch := first | exact dch | fail) only [go_sem, Nat.reduceAdd, Nat.reduceSub, reduceIte, Nat.reduceEqDiff, Int.reduceToNat, Int.reduceBEq, Int.reduceBNe]; (try (first | (refine And.intro (fun _ => ?_) (fun h => absurd h (by decide))) | (refine And.intro (fun h => absurd h (by decide)) (fun _ => ?_)))); (repeat (with_reducible refine And.intro acl ?_)); (first | (refine hK _ _ ?_) | (refine ⟨_, rfl, hK _ _ ?_⟩) | (refine Or.inl (hK _ _ ?_)) | (refine ⟨_, _, Or.inl (mp.go _), (by first | exact ⟨[], (List.append_nil _).symm⟩ | exact ⟨_, rfl⟩), hK _ _ ?_⟩) | (refine ⟨_, _, Or.inl (mp.go _), hK _ _ ?_⟩) | (refine ⟨_, _, Or.inl (mp.go _).weakQ, hK _ _ ?_⟩) | (refine ⟨_, _, Or.inl (up.go _), (by first | exact ⟨[], (List.append_nil _).symm⟩ | exact ⟨_, rfl⟩), hK _ _ ?_⟩) | (refine ⟨_, _, Or.inl (up.go _), hK _ _ ?_⟩) | (refine ⟨_, _, Or.inl (up.go _).weakQ, hK _ _ ?_⟩) | (refine ⟨_, _, Or.inl (cp.go _), (by first | exact ⟨[], (List.append_nil _).symm⟩ | exact ⟨_, rfl⟩), hK _ _ ?_⟩) | (refine ⟨_, _, Or.inl (cp.go _), hK _ _ ?_⟩) | (refine ⟨_, _, Or.inl (cp.go _).weakQ, hK _ _ ?_⟩)); clear hK K)
    | (with_reducible refine lops_nil ?_)
    | (with_reducible first | refine lavc_reg ?_ | refine lavc_seq ?_ | refine lavc_block ?_ | refine lavc_skip ?_ | refine lavc_exit ?_ | refine lavc_ret ?_ | refine lavcR_round ?_)
    | (refine lavc_cond rfl (fun _ => ?_) (fun hc => absurd hc (by decide)))
    | (refine lavc_cond rfl (fun hc => absurd hc (by decide)) (fun _ => ?_))
    | (simp only [↓reduceIte, Nat.reduceEqDiff, reduceCtorEq]))
  refine And.intro (by simp) ?_
  simp (disch := first | exact dch | fail) only [go_sem, Nat.reduceAdd, Nat.reduceSub, reduceIte, Nat.reduceEqDiff, Int.reduceToNat, Int.reduceBEq, Int.reduceBNe, aret, aretL, aret1, aenv]
  (repeat (with_reducible refine And.intro acl ?_))
  exact end0 (NR.v _) rfl
theorem times_p (n now : Int) (name : ByteArray) (hz : name.size ≤ 9223372036854775807) : PCall Tryd.prog glob 4 [ivC n, ivC now, stA name] (.v (.bool true)) := by
  refine PCall.of ctx.nr nrs (NR.v _) ?_
  refine lcall4 (by simp) 0 (Nat.le_refl _) ?_
  unfold lc4
  simp only [List.length_cons, List.length_nil, Nat.reduceAdd, Nat.reduceSub, List.replicate_succ, List.replicate_zero, List.cons_append, List.nil_append]
  have aw := awake_p
  by_cases g60 : 60 < name.size
  · have d1 : decide ((name.size : Int) > 60) = true := by rw [decide_eq_true_eq]; omega
    repeat (first
      | (with_reducible refine lops_step fun K hK => ?_; simp (disch := first | exact dch | fail) only [go_sem, Nat.reduceAdd, Nat.reduceSub, reduceIte, Nat.reduceEqDiff, Int.reduceToNat, Int.reduceBEq, Int.reduceBNe, d1]; (try (first | (refine And.intro (fun _ => ?_) (fun h => absurd h (by decide))) | (refine And.intro (fun h => absurd h (by decide)) (fun _ => ?_)))); (repeat (with_reducible refine And.intro acl ?_)); (first | (refine hK _ _ ?_) | (refine ⟨_, rfl, hK _ _ ?_⟩) | (refine Or.inl (hK _ _ ?_)) | (refine ⟨_, _, Or.inl (aw.go _), (by first | exact ⟨[], (List.append_nil _).symm⟩ | exact ⟨_, rfl⟩), hK _ _ ?_⟩) | (refine ⟨_, _, Or.inl (aw.go _), hK _ _ ?_⟩) | (refine ⟨_, _, Or.inl (aw.go _).weakQ, hK _ _ ?_⟩)); clear hK K)
      | (with_reducible refine lops_nil ?_)
      | (with_reducible first | refine lavc_reg ?_ | refine lavc_seq ?_ | refine lavc_block ?_ | refine lavc_skip ?_ | refine lavc_exit ?_ | refine lavc_ret ?_ | refine lavcR_round ?_)
      | (refine lavc_cond rfl (fun _ => ?_) (fun hc => absurd hc (by decide)))
      | (refine lavc_cond rfl (fun hc => absurd hc (by decide)) (fun _ => ?_))
      | (simp only [↓reduceIte, Nat.reduceEqDiff, reduceCtorEq]))
    refine And.intro (by simp) ?_
    simp (disch := first | exact dch | fail) only [go_sem, Nat.reduceAdd, Nat.reduceSub, reduceIte, Nat.reduceEqDiff, Int.reduceToNat, Int.reduceBEq, Int.reduceBNe, aret, aretL, aret1, aenv]
    (repeat (with_reducible refine And.intro acl ?_))
    exact end0 (NR.v _) rfl
  have d1 : decide ((name.size : Int) > 60) = false := by rw [decide_eq_false_iff_not]; omega
  by_cases gn : ¬ (tFirst ≤ n ∧ n ≤ tLast)
  · have tb := Text_bad n gn
    have po : PCall Tryd.prog glob 10 [.vsl 2 [stA name, stA ⟨#[]⟩] (some 2)] (.agg [ivC 6, stA ⟨#[]⟩, .vsl 1 [stA name] none, .vsl 1 [ivC 4, stA ⟨#[]⟩, nlA, nlA] none]) := by
      rw [← page2]
      exact pageOf_p [name, ⟨#[]⟩] (some 2) (show 2 ≤ 1000 by decide)
    repeat (first
      | (with_reducible refine lops_step fun K hK => ?_; simp (disch := first | exact dch | fail) only [go_sem, Nat.reduceAdd, Nat.reduceSub, reduceIte, Nat.reduceEqDiff, Int.reduceToNat, Int.reduceBEq, Int.reduceBNe, d1, List.replicate_succ, List.replicate_zero, List.flatten_cons, List.flatten_nil, List.cons_append, List.nil_append]; (try (first | (refine And.intro (fun _ => ?_) (fun h => absurd h (by decide))) | (refine And.intro (fun h => absurd h (by decide)) (fun _ => ?_)))); (repeat (with_reducible refine And.intro acl ?_)); (first | (refine hK _ _ ?_) | (refine ⟨_, rfl, hK _ _ ?_⟩) | (refine Or.inl (hK _ _ ?_)) | (refine ⟨_, _, Or.inl (aw.go _), (by first | exact ⟨[], (List.append_nil _).symm⟩ | exact ⟨_, rfl⟩), hK _ _ ?_⟩) | (refine ⟨_, _, Or.inl (aw.go _), hK _ _ ?_⟩) | (refine ⟨_, _, Or.inl (aw.go _).weakQ, hK _ _ ?_⟩) | (refine ⟨_, _, Or.inl (tb.go _), (by first | exact ⟨[], (List.append_nil _).symm⟩ | exact ⟨_, rfl⟩), hK _ _ ?_⟩) | (refine ⟨_, _, Or.inl (tb.go _), hK _ _ ?_⟩) | (refine ⟨_, _, Or.inl (tb.go _).weakQ, hK _ _ ?_⟩) | (refine ⟨_, _, Or.inl (po.go _), (by first | exact ⟨[], (List.append_nil _).symm⟩ | exact ⟨_, rfl⟩), hK _ _ ?_⟩) | (refine ⟨_, _, Or.inl (po.go _), hK _ _ ?_⟩) | (refine ⟨_, _, Or.inl (po.go _).weakQ, hK _ _ ?_⟩)); clear hK K)
      | (with_reducible refine lops_nil ?_)
      | (with_reducible first | refine lavc_reg ?_ | refine lavc_seq ?_ | refine lavc_block ?_ | refine lavc_skip ?_ | refine lavc_exit ?_ | refine lavc_ret ?_ | refine lavcR_round ?_)
      | (refine lavc_cond rfl (fun _ => ?_) (fun hc => absurd hc (by decide)))
      | (refine lavc_cond rfl (fun hc => absurd hc (by decide)) (fun _ => ?_))
      | (simp only [↓reduceIte, Nat.reduceEqDiff, reduceCtorEq]))
    refine And.intro (by simp) ?_
    simp (disch := first | exact dch | fail) only [go_sem, Nat.reduceAdd, Nat.reduceSub, reduceIte, Nat.reduceEqDiff, Int.reduceToNat, Int.reduceBEq, Int.reduceBNe, aret, aretL, aret1, aenv]
    (repeat (with_reducible refine And.intro acl ?_))
    exact end0 (NR.v _) rfl
  obtain ⟨t, ht, rfl⟩ := mom_of n (Decidable.not_not.1 gn).1 (Decidable.not_not.1 gn).2
  have tp := Text_p t ht
  have rt := read_txt t ht
  have zt : (strOf (txt t)).size = 20 := by rw [str_size, txt_length]
  obtain ⟨A, hA⟩ : ∃ A, strOf (txt t) = A := ⟨_, rfl⟩
  rw [hA] at tp rt zt
  obtain ⟨N, hN⟩ : ∃ N, secs t = N := ⟨_, rfl⟩
  rw [hN] at tp rt ⊢
  have po : PCall Tryd.prog glob 10 [.vsl 2 [stA name, stA A] (some 2)] (.agg [ivC 6, stA ⟨#[]⟩, .vsl 1 [stA name] none, .vsl 1 [ivC 4, stA A, nlA, nlA] none]) := by
    rw [← page2]
    exact pageOf_p [name, A] (some 2) (show 2 ≤ 1000 by decide)
  have hz1 : ∀ s ∈ [name], s.size ≤ 1000000 := by
    intro s hs
    rw [List.mem_singleton] at hs
    rw [hs]
    omega
  have hz2 : ∀ s ∈ [A], s.size ≤ 1000000 := by
    intro s hs
    rw [List.mem_singleton] at hs
    rw [hs]
    omega
  have gp : PCall Tryd.prog glob 11 [.agg [ivC 6, stA ⟨#[]⟩, .vsl 1 [stA name] none, .vsl 1 [ivC 4, stA A, nlA, nlA] none]] (ivC (goodPg [name] [A])) := Good_p [name] [A] rfl (show 1 ≤ 1000 by decide) hz1 hz2
  have c3 : PCall Tryd.prog glob 8 [.agg [ivC 6, stA ⟨#[]⟩, .vsl 1 [stA name] none, .vsl 1 [ivC 4, stA A, nlA, nlA] none], ivC now, .vsl 1 [ivC 3, stA name, stA ⟨#[]⟩] (some 1)] (ivC (chkPg [name] [A] now [(3, name, ⟨#[]⟩)])) := CheckT_p [name] [A] rfl (show 1 ≤ 1000 by decide) hz1 hz2 now [(3, name, ⟨#[]⟩)] (show 1 ≤ 1000 by decide) (some 1)
  have c4 : PCall Tryd.prog glob 8 [.agg [ivC 6, stA ⟨#[]⟩, .vsl 1 [stA name] none, .vsl 1 [ivC 4, stA A, nlA, nlA] none], ivC now, .vsl 1 [ivC 4, stA name, stA ⟨#[]⟩] (some 1)] (ivC (chkPg [name] [A] now [(4, name, ⟨#[]⟩)])) := CheckT_p [name] [A] rfl (show 1 ≤ 1000 by decide) hz1 hz2 now [(4, name, ⟨#[]⟩)] (show 1 ≤ 1000 by decide) (some 1)
  have hx : txP [name] [A] name = (A, true) := by
    have hi : idxK [name] name 0 = 0 := if_pos rfl
    unfold txP
    rw [hi]
    rfl
  unfold chkPg at c3 c4
  obtain ⟨g, hg⟩ : ∃ g, goodPg [name] [A] = g := ⟨_, rfl⟩
  rw [hg] at gp c3 c4
  by_cases h0 : g = 0
  · subst h0
    rw [if_pos rfl] at c3 c4
    rw [chkAll_cons, chk3 _ _ _ _ _ _ hx rt] at c3
    rw [chkAll_cons, chk4 _ _ _ _ _ _ hx rt] at c4
    by_cases hn : now < N
    · have d2 : decide (now < N) = true := by rw [decide_eq_true_eq]; omega
      rw [if_pos hn, if_neg (by decide)] at c3
      rw [if_neg (show ¬ N ≤ now by omega), if_pos rfl] at c4
      have c4 : PCall Tryd.prog glob 8 [.agg [ivC 6, stA ⟨#[]⟩, .vsl 1 [stA name] none, .vsl 1 [ivC 4, stA A, nlA, nlA] none], ivC now, .vsl 1 [ivC 4, stA name, stA ⟨#[]⟩] (some 1)] (ivC 0) := c4
      repeat (first
        | (with_reducible refine lops_step fun K hK => ?_; simp (disch := first | exact dch | fail) only [go_sem, Nat.reduceAdd, Nat.reduceSub, reduceIte, Nat.reduceEqDiff, Int.reduceToNat, Int.reduceBEq, Int.reduceBNe, d1, d2, List.replicate_succ, List.replicate_zero, List.flatten_cons, List.flatten_nil, List.cons_append, List.nil_append]; (try (first | (refine And.intro (fun _ => ?_) (fun h => absurd h (by decide))) | (refine And.intro (fun h => absurd h (by decide)) (fun _ => ?_)))); (repeat (with_reducible refine And.intro acl ?_)); (first | (refine hK _ _ ?_) | (refine ⟨_, rfl, hK _ _ ?_⟩) | (refine Or.inl (hK _ _ ?_)) | (refine ⟨_, _, Or.inl (aw.go _), (by first | exact ⟨[], (List.append_nil _).symm⟩ | exact ⟨_, rfl⟩), hK _ _ ?_⟩) | (refine ⟨_, _, Or.inl (aw.go _), hK _ _ ?_⟩) | (refine ⟨_, _, Or.inl (aw.go _).weakQ, hK _ _ ?_⟩) | (refine ⟨_, _, Or.inl (tp.go _), (by first | exact ⟨[], (List.append_nil _).symm⟩ | exact ⟨_, rfl⟩), hK _ _ ?_⟩) | (refine ⟨_, _, Or.inl (tp.go _), hK _ _ ?_⟩) | (refine ⟨_, _, Or.inl (tp.go _).weakQ, hK _ _ ?_⟩) | (refine ⟨_, _, Or.inl (po.go _), (by first | exact ⟨[], (List.append_nil _).symm⟩ | exact ⟨_, rfl⟩), hK _ _ ?_⟩) | (refine ⟨_, _, Or.inl (po.go _), hK _ _ ?_⟩) | (refine ⟨_, _, Or.inl (po.go _).weakQ, hK _ _ ?_⟩) | (refine ⟨_, _, Or.inl (gp.go _), (by first | exact ⟨[], (List.append_nil _).symm⟩ | exact ⟨_, rfl⟩), hK _ _ ?_⟩) | (refine ⟨_, _, Or.inl (gp.go _), hK _ _ ?_⟩) | (refine ⟨_, _, Or.inl (gp.go _).weakQ, hK _ _ ?_⟩) | (refine ⟨_, _, Or.inl (c3.go _), (by first | exact ⟨[], (List.append_nil _).symm⟩ | exact ⟨_, rfl⟩), hK _ _ ?_⟩) | (refine ⟨_, _, Or.inl (c3.go _), hK _ _ ?_⟩) | (refine ⟨_, _, Or.inl (c3.go _).weakQ, hK _ _ ?_⟩) | (refine ⟨_, _, Or.inl (c4.go _), (by first | exact ⟨[], (List.append_nil _).symm⟩ | exact ⟨_, rfl⟩), hK _ _ ?_⟩) | (refine ⟨_, _, Or.inl (c4.go _), hK _ _ ?_⟩) | (refine ⟨_, _, Or.inl (c4.go _).weakQ, hK _ _ ?_⟩)); clear hK K)
        | (with_reducible refine lops_nil ?_)
        | (with_reducible first | refine lavc_reg ?_ | refine lavc_seq ?_ | refine lavc_block ?_ | refine lavc_skip ?_ | refine lavc_exit ?_ | refine lavc_ret ?_ | refine lavcR_round ?_)
        | (refine lavc_cond rfl (fun _ => ?_) (fun hc => absurd hc (by decide)))
        | (refine lavc_cond rfl (fun hc => absurd hc (by decide)) (fun _ => ?_))
        | (simp only [↓reduceIte, Nat.reduceEqDiff, reduceCtorEq]))
      refine And.intro (by simp) ?_
      simp (disch := first | exact dch | fail) only [go_sem, Nat.reduceAdd, Nat.reduceSub, reduceIte, Nat.reduceEqDiff, Int.reduceToNat, Int.reduceBEq, Int.reduceBNe, aret, aretL, aret1, aenv]
      (repeat (with_reducible refine And.intro acl ?_))
      exact end0 (NR.v _) rfl
    · have d2 : decide (now < N) = false := by rw [decide_eq_false_iff_not]; omega
      rw [if_neg hn, if_pos rfl] at c3
      rw [if_pos (show N ≤ now by omega), if_neg (by decide)] at c4
      have c3 : PCall Tryd.prog glob 8 [.agg [ivC 6, stA ⟨#[]⟩, .vsl 1 [stA name] none, .vsl 1 [ivC 4, stA A, nlA, nlA] none], ivC now, .vsl 1 [ivC 3, stA name, stA ⟨#[]⟩] (some 1)] (ivC 0) := c3
      repeat (first
        | (with_reducible refine lops_step fun K hK => ?_; simp (disch := first | exact dch | fail) only [go_sem, Nat.reduceAdd, Nat.reduceSub, reduceIte, Nat.reduceEqDiff, Int.reduceToNat, Int.reduceBEq, Int.reduceBNe, d1, d2, List.replicate_succ, List.replicate_zero, List.flatten_cons, List.flatten_nil, List.cons_append, List.nil_append]; (try (first | (refine And.intro (fun _ => ?_) (fun h => absurd h (by decide))) | (refine And.intro (fun h => absurd h (by decide)) (fun _ => ?_)))); (repeat (with_reducible refine And.intro acl ?_)); (first | (refine hK _ _ ?_) | (refine ⟨_, rfl, hK _ _ ?_⟩) | (refine Or.inl (hK _ _ ?_)) | (refine ⟨_, _, Or.inl (aw.go _), (by first | exact ⟨[], (List.append_nil _).symm⟩ | exact ⟨_, rfl⟩), hK _ _ ?_⟩) | (refine ⟨_, _, Or.inl (aw.go _), hK _ _ ?_⟩) | (refine ⟨_, _, Or.inl (aw.go _).weakQ, hK _ _ ?_⟩) | (refine ⟨_, _, Or.inl (tp.go _), (by first | exact ⟨[], (List.append_nil _).symm⟩ | exact ⟨_, rfl⟩), hK _ _ ?_⟩) | (refine ⟨_, _, Or.inl (tp.go _), hK _ _ ?_⟩) | (refine ⟨_, _, Or.inl (tp.go _).weakQ, hK _ _ ?_⟩) | (refine ⟨_, _, Or.inl (po.go _), (by first | exact ⟨[], (List.append_nil _).symm⟩ | exact ⟨_, rfl⟩), hK _ _ ?_⟩) | (refine ⟨_, _, Or.inl (po.go _), hK _ _ ?_⟩) | (refine ⟨_, _, Or.inl (po.go _).weakQ, hK _ _ ?_⟩) | (refine ⟨_, _, Or.inl (gp.go _), (by first | exact ⟨[], (List.append_nil _).symm⟩ | exact ⟨_, rfl⟩), hK _ _ ?_⟩) | (refine ⟨_, _, Or.inl (gp.go _), hK _ _ ?_⟩) | (refine ⟨_, _, Or.inl (gp.go _).weakQ, hK _ _ ?_⟩) | (refine ⟨_, _, Or.inl (c3.go _), (by first | exact ⟨[], (List.append_nil _).symm⟩ | exact ⟨_, rfl⟩), hK _ _ ?_⟩) | (refine ⟨_, _, Or.inl (c3.go _), hK _ _ ?_⟩) | (refine ⟨_, _, Or.inl (c3.go _).weakQ, hK _ _ ?_⟩) | (refine ⟨_, _, Or.inl (c4.go _), (by first | exact ⟨[], (List.append_nil _).symm⟩ | exact ⟨_, rfl⟩), hK _ _ ?_⟩) | (refine ⟨_, _, Or.inl (c4.go _), hK _ _ ?_⟩) | (refine ⟨_, _, Or.inl (c4.go _).weakQ, hK _ _ ?_⟩)); clear hK K)
        | (with_reducible refine lops_nil ?_)
        | (with_reducible first | refine lavc_reg ?_ | refine lavc_seq ?_ | refine lavc_block ?_ | refine lavc_skip ?_ | refine lavc_exit ?_ | refine lavc_ret ?_ | refine lavcR_round ?_)
        | (refine lavc_cond rfl (fun _ => ?_) (fun hc => absurd hc (by decide)))
        | (refine lavc_cond rfl (fun hc => absurd hc (by decide)) (fun _ => ?_))
        | (simp only [↓reduceIte, Nat.reduceEqDiff, reduceCtorEq]))
      refine And.intro (by simp) ?_
      simp (disch := first | exact dch | fail) only [go_sem, Nat.reduceAdd, Nat.reduceSub, reduceIte, Nat.reduceEqDiff, Int.reduceToNat, Int.reduceBEq, Int.reduceBNe, aret, aretL, aret1, aenv]
      (repeat (with_reducible refine And.intro acl ?_))
      exact end0 (NR.v _) rfl
  · have d : ((g : Int) != 0) = true := by rw [bne_iff_ne, ne_eq]; omega
    repeat (first
      | (with_reducible refine lops_step fun K hK => ?_; simp (disch := first | exact dch | fail) only [go_sem, Nat.reduceAdd, Nat.reduceSub, reduceIte, Nat.reduceEqDiff, Int.reduceToNat, Int.reduceBEq, Int.reduceBNe, d1, d, List.replicate_succ, List.replicate_zero, List.flatten_cons, List.flatten_nil, List.cons_append, List.nil_append]; (try (first | (refine And.intro (fun _ => ?_) (fun h => absurd h (by decide))) | (refine And.intro (fun h => absurd h (by decide)) (fun _ => ?_)))); (repeat (with_reducible refine And.intro acl ?_)); (first | (refine hK _ _ ?_) | (refine ⟨_, rfl, hK _ _ ?_⟩) | (refine Or.inl (hK _ _ ?_)) | (refine ⟨_, _, Or.inl (aw.go _), (by first | exact ⟨[], (List.append_nil _).symm⟩ | exact ⟨_, rfl⟩), hK _ _ ?_⟩) | (refine ⟨_, _, Or.inl (aw.go _), hK _ _ ?_⟩) | (refine ⟨_, _, Or.inl (aw.go _).weakQ, hK _ _ ?_⟩) | (refine ⟨_, _, Or.inl (tp.go _), (by first | exact ⟨[], (List.append_nil _).symm⟩ | exact ⟨_, rfl⟩), hK _ _ ?_⟩) | (refine ⟨_, _, Or.inl (tp.go _), hK _ _ ?_⟩) | (refine ⟨_, _, Or.inl (tp.go _).weakQ, hK _ _ ?_⟩) | (refine ⟨_, _, Or.inl (po.go _), (by first | exact ⟨[], (List.append_nil _).symm⟩ | exact ⟨_, rfl⟩), hK _ _ ?_⟩) | (refine ⟨_, _, Or.inl (po.go _), hK _ _ ?_⟩) | (refine ⟨_, _, Or.inl (po.go _).weakQ, hK _ _ ?_⟩) | (refine ⟨_, _, Or.inl (gp.go _), (by first | exact ⟨[], (List.append_nil _).symm⟩ | exact ⟨_, rfl⟩), hK _ _ ?_⟩) | (refine ⟨_, _, Or.inl (gp.go _), hK _ _ ?_⟩) | (refine ⟨_, _, Or.inl (gp.go _).weakQ, hK _ _ ?_⟩)); clear hK K)
      | (with_reducible refine lops_nil ?_)
      | (with_reducible first | refine lavc_reg ?_ | refine lavc_seq ?_ | refine lavc_block ?_ | refine lavc_skip ?_ | refine lavc_exit ?_ | refine lavc_ret ?_ | refine lavcR_round ?_)
      | (refine lavc_cond rfl (fun _ => ?_) (fun hc => absurd hc (by decide)))
      | (refine lavc_cond rfl (fun hc => absurd hc (by decide)) (fun _ => ?_))
      | (simp only [↓reduceIte, Nat.reduceEqDiff, reduceCtorEq]))
    refine And.intro (by simp) ?_
    simp (disch := first | exact dch | fail) only [go_sem, Nat.reduceAdd, Nat.reduceSub, reduceIte, Nat.reduceEqDiff, Int.reduceToNat, Int.reduceBEq, Int.reduceBNe, aret, aretL, aret1, aenv]
    (repeat (with_reducible refine And.intro acl ?_))
    exact end0 (NR.v _) rfl
end Go.Abs.S
