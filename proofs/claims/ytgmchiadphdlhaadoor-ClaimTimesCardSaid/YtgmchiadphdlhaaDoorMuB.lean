/- hour: numbers as texts, in the program. hour: numerals. hour: numerals, on. hour: a time's moment. hour: a time's text, in the program. -/
import Derived.Test.YtgmchiadphdlhaaDoorMuA
import Derived.Test.YtgmchiadphdlhaaDoorFmt
import Derived.Test.YtgmchiadphdlhaaDoorMuS
namespace Go.Abs.S
attribute [local go_sem] lguard aopO aop nxL aenv toAV tput aLoad aStore vcells aBin aNilI aUn aAlloc aBox aBuild aBSlice afill aConv isIntT aappZ aCap aArr aMM aMake aSlice bnd3 bnd aFldAddr aFld aIdxAddr aIdx aExt aLen aCopy aEq0 bAV aUb aapp aappQ agh acont List.getD_cons_zero List.getD_cons_succ List.set_cons_zero List.set_cons_succ List.getElem?_cons_zero List.getElem?_cons_succ List.length_cons List.length_nil List.map_cons List.map_nil ints_length if_true if_false Bool.false_eq_true true_and and_true eq_self ne_eq not_false_eq_true not_true_eq_false beq_self_eq_true Nat.zero_add Nat.add_zero Nat.mul_one Nat.zero_mul Int.toNat_natCast List.toList_toArray List.all_cons List.all_nil AV.one Value.oneCell' Bool.and_true Bool.true_and forall_const true_implies false_implies implies_true Option.map_some Option.map_none Option.isSome_some Option.isSome_none imp_self rdP_flat rdP_row splice_one ints_set ints_get List.append_nil List.cons_append List.nil_append List.getElem?_toArray List.drop_zero ints_drop ints_take List.take_of_length_le splice_all ints_one Option.some.injEq Option.getD_some List.length_replicate zArr List.map_replicate rep_ints splice_intsR List.length_set List.length_append List.flatten_replicate_singleton rep_slice rep_string rep_bool rep_iface List.replicate_zero if_pos if_neg List.mapM_cons List.mapM_nil Option.pure_def Option.bind_eq_bind Option.bind_some Bool.true_eq_false Bool.not_false Bool.not_true get_concat set_concat
open Go.Proofs
open Go.Abs.H
set_option linter.unusedVariables false
set_option linter.unusedSimpArgs false
set_option maxRecDepth 100000
set_option maxHeartbeats 2000000
theorem NR.t2 (a b : Value) : NR (.tup [.v a, .v b]) := NR.tup (by intro c hc; simp at hc; rcases hc with rfl | rfl <;> exact NR.v _)
theorem Mul64_2 : PCall Tryd.prog glob 65 [.v (.int .u64 1), .v (.int .u64 2)] (.tup [.v (.int .u64 0), .v (.int .u64 2)]) := by
  refine PCall.of ctx.nr nrs (NR.t2 _ _) ?_
  refine lcall65 (by simp) 0 (Nat.le_refl _) ?_
  unfold lc65
  simp only [List.length_cons, List.length_nil, Nat.reduceAdd, Nat.reduceSub, List.replicate_succ, List.replicate_zero, List.cons_append, List.nil_append]
  repeat (first
    | (with_reducible refine lops_step fun K hK => ?_; simp (disch := first | exact dch | fail) only [go_sem, Nat.reduceAdd, Nat.reduceSub, reduceIte, Nat.reduceEqDiff, Int.reduceToNat, Int.reduceBEq, Int.reduceBNe]; (repeat (with_reducible refine And.intro acl ?_)); (first | (refine hK _ _ ?_) | (refine ⟨_, rfl, hK _ _ ?_⟩) | (refine Or.inl (hK _ _ ?_))); clear hK K)
    | (with_reducible refine lops_nil ?_)
    | (with_reducible first | refine lavc_reg ?_ | refine lavc_seq ?_ | refine lavc_block ?_ | refine lavc_skip ?_ | refine lavc_exit ?_ | refine lavc_ret ?_ | refine lavcR_round ?_)
    | (simp only [↓reduceIte, Nat.reduceEqDiff, reduceCtorEq]))
  refine And.intro (by simp) ?_
  simp (disch := first | exact dch | fail) only [go_sem, Nat.reduceAdd, Nat.reduceSub, reduceIte, Nat.reduceEqDiff, Int.reduceToNat, Int.reduceBEq, Int.reduceBNe, aret, aretL, aret1, aenv]
  (repeat (with_reducible refine And.intro acl ?_))
  exact end0 (NR.t2 _ _) rfl
theorem Mul64_3 : PCall Tryd.prog glob 65 [.v (.int .u64 1), .v (.int .u64 3)] (.tup [.v (.int .u64 0), .v (.int .u64 3)]) := by
  refine PCall.of ctx.nr nrs (NR.t2 _ _) ?_
  refine lcall65 (by simp) 0 (Nat.le_refl _) ?_
  unfold lc65
  simp only [List.length_cons, List.length_nil, Nat.reduceAdd, Nat.reduceSub, List.replicate_succ, List.replicate_zero, List.cons_append, List.nil_append]
  repeat (first
    | (with_reducible refine lops_step fun K hK => ?_; simp (disch := first | exact dch | fail) only [go_sem, Nat.reduceAdd, Nat.reduceSub, reduceIte, Nat.reduceEqDiff, Int.reduceToNat, Int.reduceBEq, Int.reduceBNe]; (repeat (with_reducible refine And.intro acl ?_)); (first | (refine hK _ _ ?_) | (refine ⟨_, rfl, hK _ _ ?_⟩) | (refine Or.inl (hK _ _ ?_))); clear hK K)
    | (with_reducible refine lops_nil ?_)
    | (with_reducible first | refine lavc_reg ?_ | refine lavc_seq ?_ | refine lavc_block ?_ | refine lavc_skip ?_ | refine lavc_exit ?_ | refine lavc_ret ?_ | refine lavcR_round ?_)
    | (simp only [↓reduceIte, Nat.reduceEqDiff, reduceCtorEq]))
  refine And.intro (by simp) ?_
  simp (disch := first | exact dch | fail) only [go_sem, Nat.reduceAdd, Nat.reduceSub, reduceIte, Nat.reduceEqDiff, Int.reduceToNat, Int.reduceBEq, Int.reduceBNe, aret, aretL, aret1, aenv]
  (repeat (with_reducible refine And.intro acl ?_))
  exact end0 (NR.t2 _ _) rfl
theorem Mul_2 : PCall Tryd.prog glob 49 [.v (.int .u64 1), .v (.int .u64 2)] (.tup [.v (.int .u64 0), .v (.int .u64 2)]) := by
  refine PCall.of ctx.nr nrs (NR.t2 _ _) ?_
  refine lcall49 (by simp) 0 (Nat.le_refl _) ?_
  unfold lc49
  simp only [List.length_cons, List.length_nil, Nat.reduceAdd, Nat.reduceSub, List.replicate_succ, List.replicate_zero, List.cons_append, List.nil_append]
  repeat (first
    | (with_reducible refine lops_step fun K hK => ?_; simp (disch := first | exact dch | fail) only [go_sem, Nat.reduceAdd, Nat.reduceSub, reduceIte, Nat.reduceEqDiff, Int.reduceToNat, Int.reduceBEq, Int.reduceBNe]; (try (first | (refine And.intro (fun _ => ?_) (fun h => absurd h (by decide))) | (refine And.intro (fun h => absurd h (by decide)) (fun _ => ?_)))); (repeat (with_reducible refine And.intro acl ?_)); (first | (refine hK _ _ ?_) | (refine ⟨_, rfl, hK _ _ ?_⟩) | (refine Or.inl (hK _ _ ?_)) | (refine ⟨_, _, Or.inl (Mul64_2.go _), (by first | exact ⟨[], (List.append_nil _).symm⟩ | exact ⟨_, rfl⟩), hK _ _ ?_⟩) | (refine ⟨_, _, Or.inl (Mul64_2.go _), hK _ _ ?_⟩) | (refine ⟨_, _, Or.inl (Mul64_2.go _).weakQ, hK _ _ ?_⟩)); clear hK K)
    | (with_reducible refine lops_nil ?_)
    | (with_reducible first | refine lavc_reg ?_ | refine lavc_seq ?_ | refine lavc_block ?_ | refine lavc_skip ?_ | refine lavc_exit ?_ | refine lavc_ret ?_ | refine lavcR_round ?_)
    | (refine lavc_cond rfl (fun _ => ?_) (fun hc => absurd hc (by decide)))
    | (refine lavc_cond rfl (fun hc => absurd hc (by decide)) (fun _ => ?_))
    | (simp only [↓reduceIte, Nat.reduceEqDiff, reduceCtorEq]))
  refine And.intro (by simp) ?_
  simp (disch := first | exact dch | fail) only [go_sem, Nat.reduceAdd, Nat.reduceSub, reduceIte, Nat.reduceEqDiff, Int.reduceToNat, Int.reduceBEq, Int.reduceBNe, aret, aretL, aret1, aenv]
  (repeat (with_reducible refine And.intro acl ?_))
  exact end0 (NR.t2 _ _) rfl
theorem Mul_3 : PCall Tryd.prog glob 49 [.v (.int .u64 1), .v (.int .u64 3)] (.tup [.v (.int .u64 0), .v (.int .u64 3)]) := by
  refine PCall.of ctx.nr nrs (NR.t2 _ _) ?_
  refine lcall49 (by simp) 0 (Nat.le_refl _) ?_
  unfold lc49
  simp only [List.length_cons, List.length_nil, Nat.reduceAdd, Nat.reduceSub, List.replicate_succ, List.replicate_zero, List.cons_append, List.nil_append]
  repeat (first
    | (with_reducible refine lops_step fun K hK => ?_; simp (disch := first | exact dch | fail) only [go_sem, Nat.reduceAdd, Nat.reduceSub, reduceIte, Nat.reduceEqDiff, Int.reduceToNat, Int.reduceBEq, Int.reduceBNe]; (try (first | (refine And.intro (fun _ => ?_) (fun h => absurd h (by decide))) | (refine And.intro (fun h => absurd h (by decide)) (fun _ => ?_)))); (repeat (with_reducible refine And.intro acl ?_)); (first | (refine hK _ _ ?_) | (refine ⟨_, rfl, hK _ _ ?_⟩) | (refine Or.inl (hK _ _ ?_)) | (refine ⟨_, _, Or.inl (Mul64_3.go _), (by first | exact ⟨[], (List.append_nil _).symm⟩ | exact ⟨_, rfl⟩), hK _ _ ?_⟩) | (refine ⟨_, _, Or.inl (Mul64_3.go _), hK _ _ ?_⟩) | (refine ⟨_, _, Or.inl (Mul64_3.go _).weakQ, hK _ _ ?_⟩)); clear hK K)
    | (with_reducible refine lops_nil ?_)
    | (with_reducible first | refine lavc_reg ?_ | refine lavc_seq ?_ | refine lavc_block ?_ | refine lavc_skip ?_ | refine lavc_exit ?_ | refine lavc_ret ?_ | refine lavcR_round ?_)
    | (refine lavc_cond rfl (fun _ => ?_) (fun hc => absurd hc (by decide)))
    | (refine lavc_cond rfl (fun hc => absurd hc (by decide)) (fun _ => ?_))
    | (simp only [↓reduceIte, Nat.reduceEqDiff, reduceCtorEq]))
  refine And.intro (by simp) ?_
  simp (disch := first | exact dch | fail) only [go_sem, Nat.reduceAdd, Nat.reduceSub, reduceIte, Nat.reduceEqDiff, Int.reduceToNat, Int.reduceBEq, Int.reduceBNe, aret, aretL, aret1, aenv]
  (repeat (with_reducible refine And.intro acl ?_))
  exact end0 (NR.t2 _ _) rfl
theorem LHasPrefix_p (s p : ByteArray) (h : p.size ≤ s.size) : PCall Tryd.prog glob 66 [.v (.string s), .v (.string p)] (.v (.bool ((s.extract 0 p.size).data.toList == p.data.toList))) := by
  refine PCall.of ctx.nr nrs (NR.v _) ?_
  refine lcall66 (by simp) 0 (Nat.le_refl _) ?_
  unfold lc66
  simp only [List.length_cons, List.length_nil, Nat.reduceAdd, Nat.reduceSub, List.replicate_succ, List.replicate_zero, List.cons_append, List.nil_append]
  have d1 : decide ((s.size : Int) ≥ p.size) = true := by rw [decide_eq_true_eq]; omega
  repeat (first
    | (with_reducible refine lops_step fun K hK => ?_; simp (disch := first | exact dch | fail) only [go_sem, Nat.reduceAdd, Nat.reduceSub, reduceIte, Nat.reduceEqDiff, Int.reduceToNat, Int.reduceBEq, Int.reduceBNe, d1]; (repeat (with_reducible refine And.intro acl ?_)); (first | (refine hK _ _ ?_) | (refine ⟨_, rfl, hK _ _ ?_⟩) | (refine Or.inl (hK _ _ ?_))); clear hK K)
    | (with_reducible refine lops_nil ?_)
    | (with_reducible first | refine lavc_reg ?_ | refine lavc_seq ?_ | refine lavc_block ?_ | refine lavc_skip ?_ | refine lavc_exit ?_ | refine lavc_ret ?_ | refine lavcR_round ?_)
    | (simp only [↓reduceIte, Nat.reduceEqDiff, reduceCtorEq]))
  refine And.intro (by simp) ?_
  simp (disch := first | exact dch | fail) only [go_sem, Nat.reduceAdd, Nat.reduceSub, reduceIte, Nat.reduceEqDiff, Int.reduceToNat, Int.reduceBEq, Int.reduceBNe, aret, aretL, aret1, aenv]
  (repeat (with_reducible refine And.intro acl ?_))
  exact end0 (NR.v _) (by rw [ByteArray.toList_eq, ByteArray.toList_eq])
theorem HasPrefix_p (s p : ByteArray) (h : p.size ≤ s.size) : PCall Tryd.prog glob 50 [.v (.string s), .v (.string p)] (.v (.bool ((s.extract 0 p.size).data.toList == p.data.toList))) := by
  refine PCall.of ctx.nr nrs (NR.v _) ?_
  refine lcall50 (by simp) 0 (Nat.le_refl _) ?_
  unfold lc50
  simp only [List.length_cons, List.length_nil, Nat.reduceAdd, Nat.reduceSub, List.replicate_succ, List.replicate_zero, List.cons_append, List.nil_append]
  repeat (first
    | (with_reducible refine lops_step fun K hK => ?_; simp (disch := first | exact dch | fail) only [go_sem, Nat.reduceAdd, Nat.reduceSub, reduceIte, Nat.reduceEqDiff, Int.reduceToNat, Int.reduceBEq, Int.reduceBNe]; (repeat (with_reducible refine And.intro acl ?_)); (first | (refine hK _ _ ?_) | (refine ⟨_, rfl, hK _ _ ?_⟩) | (refine Or.inl (hK _ _ ?_)) | (refine ⟨_, _, Or.inl ((LHasPrefix_p s p h).go _), (by first | exact ⟨[], (List.append_nil _).symm⟩ | exact ⟨_, rfl⟩), hK _ _ ?_⟩) | (refine ⟨_, _, Or.inl ((LHasPrefix_p s p h).go _), hK _ _ ?_⟩) | (refine ⟨_, _, Or.inl ((LHasPrefix_p s p h).go _).weakQ, hK _ _ ?_⟩)); clear hK K)
    | (with_reducible refine lops_nil ?_)
    | (with_reducible first | refine lavc_reg ?_ | refine lavc_seq ?_ | refine lavc_block ?_ | refine lavc_skip ?_ | refine lavc_exit ?_ | refine lavc_ret ?_ | refine lavcR_round ?_)
    | (simp only [↓reduceIte, Nat.reduceEqDiff, reduceCtorEq]))
  refine And.intro (by simp) ?_
  simp (disch := first | exact dch | fail) only [go_sem, Nat.reduceAdd, Nat.reduceSub, reduceIte, Nat.reduceEqDiff, Int.reduceToNat, Int.reduceBEq, Int.reduceBNe, aret, aretL, aret1, aenv]
  (repeat (with_reducible refine And.intro acl ?_))
  exact end0 (NR.v _) rfl
theorem rep_c (c : Nat) (h : c = 0 ∨ c = 1 ∨ c = 2 ∨ c = 3) : PCall Tryd.prog glob 37 [.v (.string ⟨#[48]⟩), iv c] (.v (.string (strOf (List.replicate c 48)))) := by
  refine PCall.of ctx.nr nrs (NR.v _) ?_
  refine lcall37 (by simp) 0 (Nat.le_refl _) ?_
  unfold lc37
  simp only [List.length_cons, List.length_nil, Nat.reduceAdd, Nat.reduceSub, List.replicate_succ, List.replicate_zero, List.cons_append, List.nil_append]
  rcases h with rfl | rfl | rfl | rfl
  · repeat (first
      | (with_reducible refine lops_step fun K hK => ?_; simp (disch := first | exact dch | fail) only [go_sem, Nat.reduceAdd, Nat.reduceSub, reduceIte, Nat.reduceEqDiff, Int.reduceToNat, Int.reduceBEq, Int.reduceBNe]; (try (first | (refine And.intro (fun _ => ?_) (fun h => absurd h (by decide))) | (refine And.intro (fun h => absurd h (by decide)) (fun _ => ?_)))); (repeat (with_reducible refine And.intro acl ?_)); (first | (refine hK _ _ ?_) | (refine ⟨_, rfl, hK _ _ ?_⟩) | (refine Or.inl (hK _ _ ?_))); clear hK K)
      | (with_reducible refine lops_nil ?_)
      | (with_reducible first | refine lavc_reg ?_ | refine lavc_seq ?_ | refine lavc_block ?_ | refine lavc_skip ?_ | refine lavc_exit ?_ | refine lavc_ret ?_ | refine lavcR_round ?_)
      | (refine lavc_cond rfl (fun _ => ?_) (fun hc => absurd hc (by decide)))
      | (refine lavc_cond rfl (fun hc => absurd hc (by decide)) (fun _ => ?_))
      | (simp only [↓reduceIte, Nat.reduceEqDiff, reduceCtorEq]))
    refine And.intro (by simp) ?_
    simp (disch := first | exact dch | fail) only [go_sem, Nat.reduceAdd, Nat.reduceSub, reduceIte, Nat.reduceEqDiff, Int.reduceToNat, Int.reduceBEq, Int.reduceBNe, aret, aretL, aret1, aenv]
    (repeat (with_reducible refine And.intro acl ?_))
    exact end0 (NR.v _) rfl
  · repeat (first
      | (with_reducible refine lops_step fun K hK => ?_; simp (disch := first | exact dch | fail) only [go_sem, Nat.reduceAdd, Nat.reduceSub, reduceIte, Nat.reduceEqDiff, Int.reduceToNat, Int.reduceBEq, Int.reduceBNe]; (try (first | (refine And.intro (fun _ => ?_) (fun h => absurd h (by decide))) | (refine And.intro (fun h => absurd h (by decide)) (fun _ => ?_)))); (repeat (with_reducible refine And.intro acl ?_)); (first | (refine hK _ _ ?_) | (refine ⟨_, rfl, hK _ _ ?_⟩) | (refine Or.inl (hK _ _ ?_))); clear hK K)
      | (with_reducible refine lops_nil ?_)
      | (with_reducible first | refine lavc_reg ?_ | refine lavc_seq ?_ | refine lavc_block ?_ | refine lavc_skip ?_ | refine lavc_exit ?_ | refine lavc_ret ?_ | refine lavcR_round ?_)
      | (refine lavc_cond rfl (fun _ => ?_) (fun hc => absurd hc (by decide)))
      | (refine lavc_cond rfl (fun hc => absurd hc (by decide)) (fun _ => ?_))
      | (simp only [↓reduceIte, Nat.reduceEqDiff, reduceCtorEq]))
    refine And.intro (by simp) ?_
    simp (disch := first | exact dch | fail) only [go_sem, Nat.reduceAdd, Nat.reduceSub, reduceIte, Nat.reduceEqDiff, Int.reduceToNat, Int.reduceBEq, Int.reduceBNe, aret, aretL, aret1, aenv]
    (repeat (with_reducible refine And.intro acl ?_))
    exact end0 (NR.v _) rfl
  · have hz : ({ data := #[48] } : ByteArray).size = 1 := rfl
    have q1 : IntKind.u64.wrap ((1 : Nat) : Int) = 1 := by decide
    have q2 : IntKind.u64.wrap ((2 : Nat) : Int) = 2 := by decide
    repeat (first
      | (with_reducible refine lops_step fun K hK => ?_; simp (disch := first | exact dch | fail) only [go_sem, Nat.reduceAdd, Nat.reduceSub, reduceIte, Nat.reduceEqDiff, Int.reduceToNat, Int.reduceBEq, Int.reduceBNe, hz, q1, q2]; (try (first | (refine And.intro (fun _ => ?_) (fun h => absurd h (by decide))) | (refine And.intro (fun h => absurd h (by decide)) (fun _ => ?_)))); (repeat (with_reducible refine And.intro acl ?_)); (first | (refine hK _ _ ?_) | (refine ⟨_, rfl, hK _ _ ?_⟩) | (refine Or.inl (hK _ _ ?_)) | (refine ⟨_, _, Or.inl (Mul_2.go _), (by first | exact ⟨[], (List.append_nil _).symm⟩ | exact ⟨_, rfl⟩), hK _ _ ?_⟩) | (refine ⟨_, _, Or.inl (Mul_2.go _), hK _ _ ?_⟩) | (refine ⟨_, _, Or.inl (Mul_2.go _).weakQ, hK _ _ ?_⟩) | (refine ⟨_, _, Or.inl ((HasPrefix_p _ _ (by decide)).go _), (by first | exact ⟨[], (List.append_nil _).symm⟩ | exact ⟨_, rfl⟩), hK _ _ ?_⟩) | (refine ⟨_, _, Or.inl ((HasPrefix_p _ _ (by decide)).go _), hK _ _ ?_⟩) | (refine ⟨_, _, Or.inl ((HasPrefix_p _ _ (by decide)).go _).weakQ, hK _ _ ?_⟩)); clear hK K)
      | (with_reducible refine lops_nil ?_)
      | (with_reducible first | refine lavc_reg ?_ | refine lavc_seq ?_ | refine lavc_block ?_ | refine lavc_skip ?_ | refine lavc_exit ?_ | refine lavc_ret ?_ | refine lavcR_round ?_)
      | (refine lavc_cond rfl (fun _ => ?_) (fun hc => absurd hc (by decide)))
      | (refine lavc_cond rfl (fun hc => absurd hc (by decide)) (fun _ => ?_))
      | (simp only [↓reduceIte, Nat.reduceEqDiff, reduceCtorEq]))
    refine And.intro (by simp) ?_
    simp (disch := first | exact dch | fail) only [go_sem, Nat.reduceAdd, Nat.reduceSub, reduceIte, Nat.reduceEqDiff, Int.reduceToNat, Int.reduceBEq, Int.reduceBNe, aret, aretL, aret1, aenv]
    (repeat (with_reducible refine And.intro acl ?_))
    exact end0 (NR.v _) rfl
  · have hz : ({ data := #[48] } : ByteArray).size = 1 := rfl
    have q1 : IntKind.u64.wrap ((1 : Nat) : Int) = 1 := by decide
    have q2 : IntKind.u64.wrap ((3 : Nat) : Int) = 3 := by decide
    repeat (first
      | (with_reducible refine lops_step fun K hK => ?_; simp (disch := first | exact dch | fail) only [go_sem, Nat.reduceAdd, Nat.reduceSub, reduceIte, Nat.reduceEqDiff, Int.reduceToNat, Int.reduceBEq, Int.reduceBNe, hz, q1, q2]; (try (first | (refine And.intro (fun _ => ?_) (fun h => absurd h (by decide))) | (refine And.intro (fun h => absurd h (by decide)) (fun _ => ?_)))); (repeat (with_reducible refine And.intro acl ?_)); (first | (refine hK _ _ ?_) | (refine ⟨_, rfl, hK _ _ ?_⟩) | (refine Or.inl (hK _ _ ?_)) | (refine ⟨_, _, Or.inl (Mul_3.go _), (by first | exact ⟨[], (List.append_nil _).symm⟩ | exact ⟨_, rfl⟩), hK _ _ ?_⟩) | (refine ⟨_, _, Or.inl (Mul_3.go _), hK _ _ ?_⟩) | (refine ⟨_, _, Or.inl (Mul_3.go _).weakQ, hK _ _ ?_⟩) | (refine ⟨_, _, Or.inl ((HasPrefix_p _ _ (by decide)).go _), (by first | exact ⟨[], (List.append_nil _).symm⟩ | exact ⟨_, rfl⟩), hK _ _ ?_⟩) | (refine ⟨_, _, Or.inl ((HasPrefix_p _ _ (by decide)).go _), hK _ _ ?_⟩) | (refine ⟨_, _, Or.inl ((HasPrefix_p _ _ (by decide)).go _).weakQ, hK _ _ ?_⟩)); clear hK K)
      | (with_reducible refine lops_nil ?_)
      | (with_reducible first | refine lavc_reg ?_ | refine lavc_seq ?_ | refine lavc_block ?_ | refine lavc_skip ?_ | refine lavc_exit ?_ | refine lavc_ret ?_ | refine lavcR_round ?_)
      | (refine lavc_cond rfl (fun _ => ?_) (fun hc => absurd hc (by decide)))
      | (refine lavc_cond rfl (fun hc => absurd hc (by decide)) (fun _ => ?_))
      | (simp only [↓reduceIte, Nat.reduceEqDiff, reduceCtorEq]))
    refine And.intro (by simp) ?_
    simp (disch := first | exact dch | fail) only [go_sem, Nat.reduceAdd, Nat.reduceSub, reduceIte, Nat.reduceEqDiff, Int.reduceToNat, Int.reduceBEq, Int.reduceBNe, aret, aretL, aret1, aenv]
    (repeat (with_reducible refine And.intro acl ?_))
    exact end0 (NR.v _) rfl
open Go.Proofs
open Go.Abs.H
set_option linter.unusedVariables false
set_option linter.unusedSimpArgs false
set_option maxRecDepth 100000
set_option maxHeartbeats 2000000
/-- How many digits, below 10000. -/
def nd4 (n : Nat) : Nat := if n < 10 then 1 else if n < 100 then 2 else if n < 1000 then 3 else 4
def dd (n : Nat) : List Int := digs n (nd4 n)
theorem small_p (n : Nat) (h : n < 100) : PCall Tryd.prog glob 73 [iv n] (.v (.string (strOf (dd n)))) := by
  refine PCall.of ctx.nr nrs (NR.v _) ?_
  refine lcall73 (by simp) 0 (Nat.le_refl _) ?_
  unfold lc73
  simp only [List.length_cons, List.length_nil, Nat.reduceAdd, Nat.reduceSub, List.replicate_succ, List.replicate_zero, List.cons_append, List.nil_append]
  by_cases h10 : n < 10
  · have d1 : decide ((n : Int) < 10) = true := by rw [decide_eq_true_eq]; omega
    have e1 := i64n ((n : Int) + 1) (n + 1) (by omega) (by omega)
    repeat (first
      | (with_reducible refine lops_step fun K hK => ?_; simp (disch := first | exact dch | fail) only [go_sem, Nat.reduceAdd, Nat.reduceSub, reduceIte, Nat.reduceEqDiff, Int.reduceToNat, Int.reduceBEq, Int.reduceBNe, d1]; (repeat (with_reducible refine And.intro acl ?_)); (first | (refine hK _ _ ?_) | (refine ⟨_, rfl, hK _ _ ?_⟩) | (refine Or.inl (hK _ _ ?_))); clear hK K)
      | (with_reducible refine lops_nil ?_)
      | (with_reducible first | refine lavc_reg ?_ | refine lavc_seq ?_ | refine lavc_block ?_ | refine lavc_skip ?_ | refine lavc_exit ?_ | refine lavc_ret ?_ | refine lavcR_round ?_)
      | (simp only [↓reduceIte, Nat.reduceEqDiff, reduceCtorEq]))
    refine lavc_cond rfl (fun hc => ?_) (fun hc => ?_) <;> try simp only [decide_eq_true_eq, decide_eq_false_iff_not, Int.not_lt, Int.not_le, beq_iff_eq, bne_iff_ne, bne_eq_false_iff_eq, beq_eq_false_iff_ne, ne_eq, Bool.not_eq_true', Bool.not_eq_false'] at hc
    · repeat (first
        | (with_reducible refine lops_step fun K hK => ?_; simp (disch := first | exact dch | fail) only [go_sem, Nat.reduceAdd, Nat.reduceSub, reduceIte, Nat.reduceEqDiff, Int.reduceToNat, Int.reduceBEq, Int.reduceBNe, e1, List.size_toArray, List.length_cons, List.length_nil, Nat.zero_add, Nat.reduceAdd]; (repeat (with_reducible refine And.intro acl ?_)); (first | (refine hK _ _ ?_) | (refine ⟨_, rfl, hK _ _ ?_⟩) | (refine Or.inl (hK _ _ ?_))); clear hK K)
        | (with_reducible refine lops_nil ?_)
        | (with_reducible first | refine lavc_reg ?_ | refine lavc_seq ?_ | refine lavc_block ?_ | refine lavc_skip ?_ | refine lavc_exit ?_ | refine lavc_ret ?_ | refine lavcR_round ?_)
        | (simp only [↓reduceIte, Nat.reduceEqDiff, reduceCtorEq]))
      refine And.intro (by simp) ?_
      simp (disch := first | exact dch | fail) only [go_sem, Nat.reduceAdd, Nat.reduceSub, reduceIte, Nat.reduceEqDiff, Int.reduceToNat, Int.reduceBEq, Int.reduceBNe, aret, aretL, aret1, aenv]
      (repeat (with_reducible refine And.intro acl ?_))
      exact end0 (NR.v _) (by
        congr 2
        revert h10
        revert n
        decide +kernel)
    · cases hc
  · have d1 : decide ((n : Int) < 10) = false := by rw [decide_eq_false_iff_not]; omega
    have e1 := i64n ((n : Int) * 2) (n * 2) (by omega) (by omega)
    have e2 := i64n (((n * 2 : Nat) : Int) + 2) (n * 2 + 2) (by omega) (by omega)
    repeat (first
      | (with_reducible refine lops_step fun K hK => ?_; simp (disch := first | exact dch | fail) only [go_sem, Nat.reduceAdd, Nat.reduceSub, reduceIte, Nat.reduceEqDiff, Int.reduceToNat, Int.reduceBEq, Int.reduceBNe, d1]; (repeat (with_reducible refine And.intro acl ?_)); (first | (refine hK _ _ ?_) | (refine ⟨_, rfl, hK _ _ ?_⟩) | (refine Or.inl (hK _ _ ?_))); clear hK K)
      | (with_reducible refine lops_nil ?_)
      | (with_reducible first | refine lavc_reg ?_ | refine lavc_seq ?_ | refine lavc_block ?_ | refine lavc_skip ?_ | refine lavc_exit ?_ | refine lavc_ret ?_ | refine lavcR_round ?_)
      | (simp only [↓reduceIte, Nat.reduceEqDiff, reduceCtorEq]))
    refine lavc_cond rfl (fun hc => ?_) (fun hc => ?_) <;> try simp only [decide_eq_true_eq, decide_eq_false_iff_not, Int.not_lt, Int.not_le, beq_iff_eq, bne_iff_ne, bne_eq_false_iff_eq, beq_eq_false_iff_ne, ne_eq, Bool.not_eq_true', Bool.not_eq_false'] at hc
    · cases hc
    repeat (first
      | (with_reducible refine lops_step fun K hK => ?_; simp (disch := first | exact dch | fail) only [go_sem, Nat.reduceAdd, Nat.reduceSub, reduceIte, Nat.reduceEqDiff, Int.reduceToNat, Int.reduceBEq, Int.reduceBNe, e1, e2, List.size_toArray, List.length_cons, List.length_nil, Nat.zero_add, Nat.reduceAdd]; (repeat (with_reducible refine And.intro acl ?_)); (first | (refine hK _ _ ?_) | (refine ⟨_, rfl, hK _ _ ?_⟩) | (refine Or.inl (hK _ _ ?_))); clear hK K)
      | (with_reducible refine lops_nil ?_)
      | (with_reducible first | refine lavc_reg ?_ | refine lavc_seq ?_ | refine lavc_block ?_ | refine lavc_skip ?_ | refine lavc_exit ?_ | refine lavc_ret ?_ | refine lavcR_round ?_)
      | (simp only [↓reduceIte, Nat.reduceEqDiff, reduceCtorEq]))
    refine And.intro (by simp) ?_
    simp (disch := first | exact dch | fail) only [go_sem, Nat.reduceAdd, Nat.reduceSub, reduceIte, Nat.reduceEqDiff, Int.reduceToNat, Int.reduceBEq, Int.reduceBNe, aret, aretL, aret1, aenv]
    (repeat (with_reducible refine And.intro acl ?_))
    exact end0 (NR.v _) (by
      congr 2
      clear d1 e1 e2
      revert h10
      revert h
      revert n
      decide +kernel)
def ln (x : Nat) : Nat := if x < 2 then 1 else if x < 4 then 2 else if x < 8 then 3 else if x < 16 then 4 else if x < 32 then 5 else if x < 64 then 6 else if x < 128 then 7 else 8
theorem Len64_p (n : Nat) (h1 : 100 ≤ n) (h2 : n < 10000) : PCall Tryd.prog glob 81 [.v (.int .u64 n)] (iv ((if n < 256 then ln n else 8 + ln (n / 256) : Nat) : Int)) := by
  refine PCall.of ctx.nr nrs (NR.v _) ?_
  refine lcall81 (by simp) 0 (Nat.le_refl _) ?_
  unfold lc81
  simp only [List.length_cons, List.length_nil, Nat.reduceAdd, Nat.reduceSub, List.replicate_succ, List.replicate_zero, List.cons_append, List.nil_append]
  have d1 : decide ((n : Int) ≥ 4294967296) = false := by rw [decide_eq_false_iff_not]; omega
  have d2 : decide ((n : Int) ≥ 65536) = false := by rw [decide_eq_false_iff_not]; omega
  have hsz : Lib.len8tab.size = 256 := by decide +kernel
  have tab : ∀ x, x < 256 → 1 ≤ x → (Lib.len8tab.data.toList.getD x 0).toNat = ln x := by decide +kernel
  have lnle : ∀ x, ln x ≤ 8 := fun x => by unfold ln; repeat' split
                                           all_goals omega
  by_cases h3 : n < 256
  · have d3 : decide ((n : Int) ≥ 256) = false := by rw [decide_eq_false_iff_not]; omega
    have w8 : IntKind.u8.wrap (n : Int) = n := by rw [IntKind.wrap_u8]; omega
    have t8 := tab n h3 (by omega)
    have s8 := i64n ((ln n : Nat) : Int) (ln n) rfl (by have := lnle n; omega)
    rw [if_pos h3]
    repeat (first
      | (with_reducible refine lops_step fun K hK => ?_; simp (disch := first | exact dch | fail) only [go_sem, Nat.reduceAdd, Nat.reduceSub, reduceIte, Nat.reduceEqDiff, Int.reduceToNat, Int.reduceBEq, Int.reduceBNe, d1, d2, d3, hsz, w8, t8, s8, Int.toNat_natCast, Int.zero_add]; (try (first | (refine And.intro (fun _ => ?_) (fun h => absurd h (by decide))) | (refine And.intro (fun h => absurd h (by decide)) (fun _ => ?_)))); (repeat (with_reducible refine And.intro acl ?_)); (first | (refine hK _ _ ?_) | (refine ⟨_, rfl, hK _ _ ?_⟩) | (refine Or.inl (hK _ _ ?_))); clear hK K)
      | (with_reducible refine lops_nil ?_)
      | (with_reducible first | refine lavc_reg ?_ | refine lavc_seq ?_ | refine lavc_block ?_ | refine lavc_skip ?_ | refine lavc_exit ?_ | refine lavc_ret ?_ | refine lavcR_round ?_)
      | (refine lavc_cond rfl (fun _ => ?_) (fun hc => absurd hc (by decide)))
      | (refine lavc_cond rfl (fun hc => absurd hc (by decide)) (fun _ => ?_))
      | (simp only [↓reduceIte, Nat.reduceEqDiff, reduceCtorEq]))
    refine And.intro (by simp) ?_
    simp (disch := first | exact dch | fail) only [go_sem, Nat.reduceAdd, Nat.reduceSub, reduceIte, Nat.reduceEqDiff, Int.reduceToNat, Int.reduceBEq, Int.reduceBNe, aret, aretL, aret1, aenv]
    (repeat (with_reducible refine And.intro acl ?_))
    exact end0 (NR.v _) rfl
  · have d3 : decide ((n : Int) ≥ 256) = true := by rw [decide_eq_true_eq]; omega
    rw [if_neg h3]
    have q1 : n / 2 ^ 8 = n / 256 := rfl
    have sh : shrI .u64 (n : Int) 8 = ((n / 256 : Nat) : Int) := by rw [shrI_le _ _ _ (by decide)]; rfl
    have w8 : IntKind.u8.wrap ((n / 256 : Nat) : Int) = ((n / 256 : Nat) : Int) := by rw [IntKind.wrap_u8]; omega
    have t8 := tab (n / 256) (by omega) (by omega)
    have l8 := lnle (n / 256)
    have s0 := i64n ((ln (n / 256) : Nat) : Int) (ln (n / 256)) rfl (by omega)
    have s8 := i64n (8 + ((ln (n / 256) : Nat) : Int)) (8 + ln (n / 256)) (by omega) (by omega)
    have s9 := i64z 8 (by omega)
    repeat (first
      | (with_reducible refine lops_step fun K hK => ?_; simp (disch := first | exact dch | fail) only [go_sem, Nat.reduceAdd, Nat.reduceSub, reduceIte, Nat.reduceEqDiff, Int.reduceToNat, Int.reduceBEq, Int.reduceBNe, sh, s9, s0, d1, d2, d3, hsz, w8, t8, s8, Int.toNat_natCast, Int.zero_add]; (try (first | (refine And.intro (fun _ => ?_) (fun h => absurd h (by decide))) | (refine And.intro (fun h => absurd h (by decide)) (fun _ => ?_)))); (repeat (with_reducible refine And.intro acl ?_)); (first | (refine hK _ _ ?_) | (refine ⟨_, rfl, hK _ _ ?_⟩) | (refine Or.inl (hK _ _ ?_))); clear hK K)
      | (with_reducible refine lops_nil ?_)
      | (with_reducible first | refine lavc_reg ?_ | refine lavc_seq ?_ | refine lavc_block ?_ | refine lavc_skip ?_ | refine lavc_exit ?_ | refine lavc_ret ?_ | refine lavcR_round ?_)
      | (refine lavc_cond rfl (fun _ => ?_) (fun hc => absurd hc (by decide)))
      | (refine lavc_cond rfl (fun hc => absurd hc (by decide)) (fun _ => ?_))
      | (simp only [↓reduceIte, Nat.reduceEqDiff, reduceCtorEq]))
    refine And.intro (by simp) ?_
    simp (disch := first | exact dch | fail) only [go_sem, Nat.reduceAdd, Nat.reduceSub, reduceIte, Nat.reduceEqDiff, Int.reduceToNat, Int.reduceBEq, Int.reduceBNe, aret, aretL, aret1, aenv]
    (repeat (with_reducible refine And.intro acl ?_))
    exact end0 (NR.v _) rfl
theorem log10_p (x : Nat) (h : x ≤ 64) : PCall Tryd.prog glob 80 [iv x] (iv ((x * 78913 / 262144 : Nat) : Int)) := by
  refine PCall.of ctx.nr nrs (NR.v _) ?_
  refine lcall80 (by simp) 0 (Nat.le_refl _) ?_
  unfold lc80
  simp only [List.length_cons, List.length_nil, Nat.reduceAdd, Nat.reduceSub, List.replicate_succ, List.replicate_zero, List.cons_append, List.nil_append]
  have e1 := i64n ((x : Int) * 78913) (x * 78913) (by omega) (by omega)
  have sh : shrI .i64 ((x * 78913 : Nat) : Int) 18 = ((x * 78913 / 262144 : Nat) : Int) := by rw [shrI_le _ _ _ (by decide)]; rfl
  repeat (first
    | (with_reducible refine lops_step fun K hK => ?_; simp (disch := first | exact dch | fail) only [go_sem, Nat.reduceAdd, Nat.reduceSub, reduceIte, Nat.reduceEqDiff, Int.reduceToNat, Int.reduceBEq, Int.reduceBNe, e1, sh]; (repeat (with_reducible refine And.intro acl ?_)); (first | (refine hK _ _ ?_) | (refine ⟨_, rfl, hK _ _ ?_⟩) | (refine Or.inl (hK _ _ ?_))); clear hK K)
    | (with_reducible refine lops_nil ?_)
    | (with_reducible first | refine lavc_reg ?_ | refine lavc_seq ?_ | refine lavc_block ?_ | refine lavc_skip ?_ | refine lavc_exit ?_ | refine lavc_ret ?_ | refine lavcR_round ?_)
    | (simp only [↓reduceIte, Nat.reduceEqDiff, reduceCtorEq]))
  refine And.intro (by simp) ?_
  simp (disch := first | exact dch | fail) only [go_sem, Nat.reduceAdd, Nat.reduceSub, reduceIte, Nat.reduceEqDiff, Int.reduceToNat, Int.reduceBEq, Int.reduceBNe, aret, aretL, aret1, aenv]
  (repeat (with_reducible refine And.intro acl ?_))
  exact end0 (NR.v _) rfl
theorem bool2_p (b : Bool) : PCall Tryd.prog glob 82 [.v (.bool b)] (iv (if b then 1 else 0)) := by
  refine PCall.of ctx.nr nrs (NR.v _) ?_
  refine lcall82 (by simp) 0 (Nat.le_refl _) ?_
  unfold lc82
  simp only [List.length_cons, List.length_nil, Nat.reduceAdd, Nat.reduceSub, List.replicate_succ, List.replicate_zero, List.cons_append, List.nil_append]
  cases b
  · repeat (first
      | (with_reducible refine lops_step fun K hK => ?_; simp (disch := first | exact dch | fail) only [go_sem, Nat.reduceAdd, Nat.reduceSub, reduceIte, Nat.reduceEqDiff, Int.reduceToNat, Int.reduceBEq, Int.reduceBNe]; (try (first | (refine And.intro (fun _ => ?_) (fun h => absurd h (by decide))) | (refine And.intro (fun h => absurd h (by decide)) (fun _ => ?_)))); (repeat (with_reducible refine And.intro acl ?_)); (first | (refine hK _ _ ?_) | (refine ⟨_, rfl, hK _ _ ?_⟩) | (refine Or.inl (hK _ _ ?_))); clear hK K)
      | (with_reducible refine lops_nil ?_)
      | (with_reducible first | refine lavc_reg ?_ | refine lavc_seq ?_ | refine lavc_block ?_ | refine lavc_skip ?_ | refine lavc_exit ?_ | refine lavc_ret ?_ | refine lavcR_round ?_)
      | (refine lavc_cond rfl (fun _ => ?_) (fun hc => absurd hc (by decide)))
      | (refine lavc_cond rfl (fun hc => absurd hc (by decide)) (fun _ => ?_))
      | (simp only [↓reduceIte, Nat.reduceEqDiff, reduceCtorEq]))
    refine And.intro (by simp) ?_
    simp (disch := first | exact dch | fail) only [go_sem, Nat.reduceAdd, Nat.reduceSub, reduceIte, Nat.reduceEqDiff, Int.reduceToNat, Int.reduceBEq, Int.reduceBNe, aret, aretL, aret1, aenv]
    (repeat (with_reducible refine And.intro acl ?_))
    exact end0 (NR.v _) rfl
  · repeat (first
      | (with_reducible refine lops_step fun K hK => ?_; simp (disch := first | exact dch | fail) only [go_sem, Nat.reduceAdd, Nat.reduceSub, reduceIte, Nat.reduceEqDiff, Int.reduceToNat, Int.reduceBEq, Int.reduceBNe]; (try (first | (refine And.intro (fun _ => ?_) (fun h => absurd h (by decide))) | (refine And.intro (fun h => absurd h (by decide)) (fun _ => ?_)))); (repeat (with_reducible refine And.intro acl ?_)); (first | (refine hK _ _ ?_) | (refine ⟨_, rfl, hK _ _ ?_⟩) | (refine Or.inl (hK _ _ ?_))); clear hK K)
      | (with_reducible refine lops_nil ?_)
      | (with_reducible first | refine lavc_reg ?_ | refine lavc_seq ?_ | refine lavc_block ?_ | refine lavc_skip ?_ | refine lavc_exit ?_ | refine lavc_ret ?_ | refine lavcR_round ?_)
      | (refine lavc_cond rfl (fun _ => ?_) (fun hc => absurd hc (by decide)))
      | (refine lavc_cond rfl (fun hc => absurd hc (by decide)) (fun _ => ?_))
      | (simp only [↓reduceIte, Nat.reduceEqDiff, reduceCtorEq]))
    refine And.intro (by simp) ?_
    simp (disch := first | exact dch | fail) only [go_sem, Nat.reduceAdd, Nat.reduceSub, reduceIte, Nat.reduceEqDiff, Int.reduceToNat, Int.reduceBEq, Int.reduceBNe, aret, aretL, aret1, aenv]
    (repeat (with_reducible refine And.intro acl ?_))
    exact end0 (NR.v _) rfl
theorem numDigits_p (n : Nat) (h1 : 100 ≤ n) (h2 : n < 10000) : PCall Tryd.prog glob 74 [.v (.int .u64 n)] (iv (nd4 n)) := by
  refine PCall.of ctx.nr nrs (NR.v _) ?_
  refine lcall74 (by simp) 0 (Nat.le_refl _) ?_
  unfold lc74
  simp only [List.length_cons, List.length_nil, Nat.reduceAdd, Nat.reduceSub, List.replicate_succ, List.replicate_zero, List.cons_append, List.nil_append]
  have lp := Len64_p n h1 h2
  obtain ⟨L, hL⟩ : ∃ L : Nat, (if n < 256 then ln n else 8 + ln (n / 256)) = L := ⟨_, rfl⟩
  rw [hL] at lp
  have hcase : (L ≤ 9 ∧ 7 ≤ L ∧ n < 512) ∨ (L = 10 ∧ 512 ≤ n ∧ n < 1024) ∨ (L ≤ 13 ∧ 11 ≤ L ∧ 1024 ≤ n) ∨ (L = 14 ∧ 8192 ≤ n) := by
    unfold ln at hL
    repeat' split at hL
    all_goals omega
  have gp := log10_p L (by omega)
  have hln : lay_internal_strconv_uint64pow10.length = 20 := rfl
  have g2 : lay_internal_strconv_uint64pow10.getD 2 0 = 100 := rfl
  have g3 : lay_internal_strconv_uint64pow10.getD 3 0 = 1000 := rfl
  have g4 : lay_internal_strconv_uint64pow10.getD 4 0 = 10000 := rfl
  have bt := bool2_p true
  have bf := bool2_p false
  rcases hcase with h | h | h | h
  · have e : L * 78913 / 262144 = 2 := by omega
    have hr : nd4 n = 3 := by unfold nd4; rw [if_neg (by omega), if_neg (by omega), if_pos (by omega)]
    rw [e] at gp
    rw [hr]
    have d1 : decide ((n : Int) ≥ 100) = true := by rw [decide_eq_true_eq]; omega
    repeat (first
      | (with_reducible refine lops_step fun K hK => ?_; simp (disch := first | exact dch | fail) only [go_sem, Nat.reduceAdd, Nat.reduceSub, reduceIte, Nat.reduceEqDiff, Int.reduceToNat, Int.reduceBEq, Int.reduceBNe, hln, g2, d1, Int.toNat_natCast]; (repeat (with_reducible refine And.intro acl ?_)); (first | (refine hK _ _ ?_) | (refine ⟨_, rfl, hK _ _ ?_⟩) | (refine Or.inl (hK _ _ ?_)) | (refine ⟨_, _, Or.inl (lp.go _), (by first | exact ⟨[], (List.append_nil _).symm⟩ | exact ⟨_, rfl⟩), hK _ _ ?_⟩) | (refine ⟨_, _, Or.inl (lp.go _), hK _ _ ?_⟩) | (refine ⟨_, _, Or.inl (lp.go _).weakQ, hK _ _ ?_⟩) | (refine ⟨_, _, Or.inl (gp.go _), (by first | exact ⟨[], (List.append_nil _).symm⟩ | exact ⟨_, rfl⟩), hK _ _ ?_⟩) | (refine ⟨_, _, Or.inl (gp.go _), hK _ _ ?_⟩) | (refine ⟨_, _, Or.inl (gp.go _).weakQ, hK _ _ ?_⟩) | (refine ⟨_, _, Or.inl (bt.go _), (by first | exact ⟨[], (List.append_nil _).symm⟩ | exact ⟨_, rfl⟩), hK _ _ ?_⟩) | (refine ⟨_, _, Or.inl (bt.go _), hK _ _ ?_⟩) | (refine ⟨_, _, Or.inl (bt.go _).weakQ, hK _ _ ?_⟩) | (refine ⟨_, _, Or.inl (bf.go _), (by first | exact ⟨[], (List.append_nil _).symm⟩ | exact ⟨_, rfl⟩), hK _ _ ?_⟩) | (refine ⟨_, _, Or.inl (bf.go _), hK _ _ ?_⟩) | (refine ⟨_, _, Or.inl (bf.go _).weakQ, hK _ _ ?_⟩)); clear hK K)
      | (with_reducible refine lops_nil ?_)
      | (with_reducible first | refine lavc_reg ?_ | refine lavc_seq ?_ | refine lavc_block ?_ | refine lavc_skip ?_ | refine lavc_exit ?_ | refine lavc_ret ?_ | refine lavcR_round ?_)
      | (simp only [↓reduceIte, Nat.reduceEqDiff, reduceCtorEq]))
    refine And.intro (by simp) ?_
    simp (disch := first | exact dch | fail) only [go_sem, Nat.reduceAdd, Nat.reduceSub, reduceIte, Nat.reduceEqDiff, Int.reduceToNat, Int.reduceBEq, Int.reduceBNe, aret, aretL, aret1, aenv]
    (repeat (with_reducible refine And.intro acl ?_))
    exact end0 (NR.v _) rfl
  · have e : L * 78913 / 262144 = 3 := by omega
    rw [e] at gp
    by_cases hk : n < 1000
    · have hr : nd4 n = 3 := by unfold nd4; rw [if_neg (by omega), if_neg (by omega), if_pos (by omega)]
      rw [hr]
      have d1 : decide ((n : Int) ≥ 1000) = false := by rw [decide_eq_false_iff_not]; omega
      repeat (first
        | (with_reducible refine lops_step fun K hK => ?_; simp (disch := first | exact dch | fail) only [go_sem, Nat.reduceAdd, Nat.reduceSub, reduceIte, Nat.reduceEqDiff, Int.reduceToNat, Int.reduceBEq, Int.reduceBNe, hln, g3, d1, Int.toNat_natCast]; (repeat (with_reducible refine And.intro acl ?_)); (first | (refine hK _ _ ?_) | (refine ⟨_, rfl, hK _ _ ?_⟩) | (refine Or.inl (hK _ _ ?_)) | (refine ⟨_, _, Or.inl (lp.go _), (by first | exact ⟨[], (List.append_nil _).symm⟩ | exact ⟨_, rfl⟩), hK _ _ ?_⟩) | (refine ⟨_, _, Or.inl (lp.go _), hK _ _ ?_⟩) | (refine ⟨_, _, Or.inl (lp.go _).weakQ, hK _ _ ?_⟩) | (refine ⟨_, _, Or.inl (gp.go _), (by first | exact ⟨[], (List.append_nil _).symm⟩ | exact ⟨_, rfl⟩), hK _ _ ?_⟩) | (refine ⟨_, _, Or.inl (gp.go _), hK _ _ ?_⟩) | (refine ⟨_, _, Or.inl (gp.go _).weakQ, hK _ _ ?_⟩) | (refine ⟨_, _, Or.inl (bt.go _), (by first | exact ⟨[], (List.append_nil _).symm⟩ | exact ⟨_, rfl⟩), hK _ _ ?_⟩) | (refine ⟨_, _, Or.inl (bt.go _), hK _ _ ?_⟩) | (refine ⟨_, _, Or.inl (bt.go _).weakQ, hK _ _ ?_⟩) | (refine ⟨_, _, Or.inl (bf.go _), (by first | exact ⟨[], (List.append_nil _).symm⟩ | exact ⟨_, rfl⟩), hK _ _ ?_⟩) | (refine ⟨_, _, Or.inl (bf.go _), hK _ _ ?_⟩) | (refine ⟨_, _, Or.inl (bf.go _).weakQ, hK _ _ ?_⟩)); clear hK K)
        | (with_reducible refine lops_nil ?_)
        | (with_reducible first | refine lavc_reg ?_ | refine lavc_seq ?_ | refine lavc_block ?_ | refine lavc_skip ?_ | refine lavc_exit ?_ | refine lavc_ret ?_ | refine lavcR_round ?_)
        | (simp only [↓reduceIte, Nat.reduceEqDiff, reduceCtorEq]))
      refine And.intro (by simp) ?_
      simp (disch := first | exact dch | fail) only [go_sem, Nat.reduceAdd, Nat.reduceSub, reduceIte, Nat.reduceEqDiff, Int.reduceToNat, Int.reduceBEq, Int.reduceBNe, aret, aretL, aret1, aenv]
      (repeat (with_reducible refine And.intro acl ?_))
      exact end0 (NR.v _) rfl
    · have hr : nd4 n = 4 := by unfold nd4; rw [if_neg (by omega), if_neg (by omega), if_neg (by omega)]
      rw [hr]
      have d1 : decide ((n : Int) ≥ 1000) = true := by rw [decide_eq_true_eq]; omega
      repeat (first
        | (with_reducible refine lops_step fun K hK => ?_; simp (disch := first | exact dch | fail) only [go_sem, Nat.reduceAdd, Nat.reduceSub, reduceIte, Nat.reduceEqDiff, Int.reduceToNat, Int.reduceBEq, Int.reduceBNe, hln, g3, d1, Int.toNat_natCast]; (repeat (with_reducible refine And.intro acl ?_)); (first | (refine hK _ _ ?_) | (refine ⟨_, rfl, hK _ _ ?_⟩) | (refine Or.inl (hK _ _ ?_)) | (refine ⟨_, _, Or.inl (lp.go _), (by first | exact ⟨[], (List.append_nil _).symm⟩ | exact ⟨_, rfl⟩), hK _ _ ?_⟩) | (refine ⟨_, _, Or.inl (lp.go _), hK _ _ ?_⟩) | (refine ⟨_, _, Or.inl (lp.go _).weakQ, hK _ _ ?_⟩) | (refine ⟨_, _, Or.inl (gp.go _), (by first | exact ⟨[], (List.append_nil _).symm⟩ | exact ⟨_, rfl⟩), hK _ _ ?_⟩) | (refine ⟨_, _, Or.inl (gp.go _), hK _ _ ?_⟩) | (refine ⟨_, _, Or.inl (gp.go _).weakQ, hK _ _ ?_⟩) | (refine ⟨_, _, Or.inl (bt.go _), (by first | exact ⟨[], (List.append_nil _).symm⟩ | exact ⟨_, rfl⟩), hK _ _ ?_⟩) | (refine ⟨_, _, Or.inl (bt.go _), hK _ _ ?_⟩) | (refine ⟨_, _, Or.inl (bt.go _).weakQ, hK _ _ ?_⟩) | (refine ⟨_, _, Or.inl (bf.go _), (by first | exact ⟨[], (List.append_nil _).symm⟩ | exact ⟨_, rfl⟩), hK _ _ ?_⟩) | (refine ⟨_, _, Or.inl (bf.go _), hK _ _ ?_⟩) | (refine ⟨_, _, Or.inl (bf.go _).weakQ, hK _ _ ?_⟩)); clear hK K)
        | (with_reducible refine lops_nil ?_)
        | (with_reducible first | refine lavc_reg ?_ | refine lavc_seq ?_ | refine lavc_block ?_ | refine lavc_skip ?_ | refine lavc_exit ?_ | refine lavc_ret ?_ | refine lavcR_round ?_)
        | (simp only [↓reduceIte, Nat.reduceEqDiff, reduceCtorEq]))
      refine And.intro (by simp) ?_
      simp (disch := first | exact dch | fail) only [go_sem, Nat.reduceAdd, Nat.reduceSub, reduceIte, Nat.reduceEqDiff, Int.reduceToNat, Int.reduceBEq, Int.reduceBNe, aret, aretL, aret1, aenv]
      (repeat (with_reducible refine And.intro acl ?_))
      exact end0 (NR.v _) rfl
  · have e : L * 78913 / 262144 = 3 := by omega
    have hr : nd4 n = 4 := by unfold nd4; rw [if_neg (by omega), if_neg (by omega), if_neg (by omega)]
    rw [e] at gp
    rw [hr]
    have d1 : decide ((n : Int) ≥ 1000) = true := by rw [decide_eq_true_eq]; omega
    repeat (first
      | (with_reducible refine lops_step fun K hK => ?_; simp (disch := first | exact dch | fail) only [go_sem, Nat.reduceAdd, Nat.reduceSub, reduceIte, Nat.reduceEqDiff, Int.reduceToNat, Int.reduceBEq, Int.reduceBNe, hln, g3, d1, Int.toNat_natCast]; (repeat (with_reducible refine And.intro acl ?_)); (first | (refine hK _ _ ?_) | (refine ⟨_, rfl, hK _ _ ?_⟩) | (refine Or.inl (hK _ _ ?_)) | (refine ⟨_, _, Or.inl (lp.go _), (by first | exact ⟨[], (List.append_nil _).symm⟩ | exact ⟨_, rfl⟩), hK _ _ ?_⟩) | (refine ⟨_, _, Or.inl (lp.go _), hK _ _ ?_⟩) | (refine ⟨_, _, Or.inl (lp.go _).weakQ, hK _ _ ?_⟩) | (refine ⟨_, _, Or.inl (gp.go _), (by first | exact ⟨[], (List.append_nil _).symm⟩ | exact ⟨_, rfl⟩), hK _ _ ?_⟩) | (refine ⟨_, _, Or.inl (gp.go _), hK _ _ ?_⟩) | (refine ⟨_, _, Or.inl (gp.go _).weakQ, hK _ _ ?_⟩) | (refine ⟨_, _, Or.inl (bt.go _), (by first | exact ⟨[], (List.append_nil _).symm⟩ | exact ⟨_, rfl⟩), hK _ _ ?_⟩) | (refine ⟨_, _, Or.inl (bt.go _), hK _ _ ?_⟩) | (refine ⟨_, _, Or.inl (bt.go _).weakQ, hK _ _ ?_⟩) | (refine ⟨_, _, Or.inl (bf.go _), (by first | exact ⟨[], (List.append_nil _).symm⟩ | exact ⟨_, rfl⟩), hK _ _ ?_⟩) | (refine ⟨_, _, Or.inl (bf.go _), hK _ _ ?_⟩) | (refine ⟨_, _, Or.inl (bf.go _).weakQ, hK _ _ ?_⟩)); clear hK K)
      | (with_reducible refine lops_nil ?_)
      | (with_reducible first | refine lavc_reg ?_ | refine lavc_seq ?_ | refine lavc_block ?_ | refine lavc_skip ?_ | refine lavc_exit ?_ | refine lavc_ret ?_ | refine lavcR_round ?_)
      | (simp only [↓reduceIte, Nat.reduceEqDiff, reduceCtorEq]))
    refine And.intro (by simp) ?_
    simp (disch := first | exact dch | fail) only [go_sem, Nat.reduceAdd, Nat.reduceSub, reduceIte, Nat.reduceEqDiff, Int.reduceToNat, Int.reduceBEq, Int.reduceBNe, aret, aretL, aret1, aenv]
    (repeat (with_reducible refine And.intro acl ?_))
    exact end0 (NR.v _) rfl
  · have e : L * 78913 / 262144 = 4 := by omega
    have hr : nd4 n = 4 := by unfold nd4; rw [if_neg (by omega), if_neg (by omega), if_neg (by omega)]
    rw [e] at gp
    rw [hr]
    have d1 : decide ((n : Int) ≥ 10000) = false := by rw [decide_eq_false_iff_not]; omega
    repeat (first
      | (with_reducible refine lops_step fun K hK => ?_; simp (disch := first | exact dch | fail) only [go_sem, Nat.reduceAdd, Nat.reduceSub, reduceIte, Nat.reduceEqDiff, Int.reduceToNat, Int.reduceBEq, Int.reduceBNe, hln, g4, d1, Int.toNat_natCast]; (repeat (with_reducible refine And.intro acl ?_)); (first | (refine hK _ _ ?_) | (refine ⟨_, rfl, hK _ _ ?_⟩) | (refine Or.inl (hK _ _ ?_)) | (refine ⟨_, _, Or.inl (lp.go _), (by first | exact ⟨[], (List.append_nil _).symm⟩ | exact ⟨_, rfl⟩), hK _ _ ?_⟩) | (refine ⟨_, _, Or.inl (lp.go _), hK _ _ ?_⟩) | (refine ⟨_, _, Or.inl (lp.go _).weakQ, hK _ _ ?_⟩) | (refine ⟨_, _, Or.inl (gp.go _), (by first | exact ⟨[], (List.append_nil _).symm⟩ | exact ⟨_, rfl⟩), hK _ _ ?_⟩) | (refine ⟨_, _, Or.inl (gp.go _), hK _ _ ?_⟩) | (refine ⟨_, _, Or.inl (gp.go _).weakQ, hK _ _ ?_⟩) | (refine ⟨_, _, Or.inl (bt.go _), (by first | exact ⟨[], (List.append_nil _).symm⟩ | exact ⟨_, rfl⟩), hK _ _ ?_⟩) | (refine ⟨_, _, Or.inl (bt.go _), hK _ _ ?_⟩) | (refine ⟨_, _, Or.inl (bt.go _).weakQ, hK _ _ ?_⟩) | (refine ⟨_, _, Or.inl (bf.go _), (by first | exact ⟨[], (List.append_nil _).symm⟩ | exact ⟨_, rfl⟩), hK _ _ ?_⟩) | (refine ⟨_, _, Or.inl (bf.go _), hK _ _ ?_⟩) | (refine ⟨_, _, Or.inl (bf.go _).weakQ, hK _ _ ?_⟩)); clear hK K)
      | (with_reducible refine lops_nil ?_)
      | (with_reducible first | refine lavc_reg ?_ | refine lavc_seq ?_ | refine lavc_block ?_ | refine lavc_skip ?_ | refine lavc_exit ?_ | refine lavc_ret ?_ | refine lavcR_round ?_)
      | (simp only [↓reduceIte, Nat.reduceEqDiff, reduceCtorEq]))
    refine And.intro (by simp) ?_
    simp (disch := first | exact dch | fail) only [go_sem, Nat.reduceAdd, Nat.reduceSub, reduceIte, Nat.reduceEqDiff, Int.reduceToNat, Int.reduceBEq, Int.reduceBNe, aret, aretL, aret1, aenv]
    (repeat (with_reducible refine And.intro acl ?_))
    exact end0 (NR.v _) rfl
open Go.Proofs
open Go.Abs.H
set_option linter.unusedVariables false
set_option linter.unusedSimpArgs false
set_option maxRecDepth 100000
set_option maxHeartbeats 2000000
theorem FormatInt_p (n : Nat) (h2 : n < 10000) : PCall Tryd.prog glob 63 [iv n, iv 10] (.v (.string (strOf (dd n)))) := by
  refine PCall.of ctx.nr nrs (NR.v _) ?_
  refine lcall63 (by simp) 0 (Nat.le_refl _) ?_
  unfold lc63
  simp only [List.length_cons, List.length_nil, Nat.reduceAdd, Nat.reduceSub, List.replicate_succ, List.replicate_zero, List.cons_append, List.nil_append]
  have d0 : decide ((0 : Int) ≤ n) = true := by rw [decide_eq_true_eq]; omega
  by_cases h1 : n < 100
  · have sp := small_p n h1
    have d1 : decide ((n : Int) < 100) = true := by rw [decide_eq_true_eq]; omega
    repeat (first
      | (with_reducible refine lops_step fun K hK => ?_; simp (disch := first | exact dch | fail) only [go_sem, Nat.reduceAdd, Nat.reduceSub, reduceIte, Nat.reduceEqDiff, Int.reduceToNat, Int.reduceBEq, Int.reduceBNe, d0, d1]; (try (first | (refine And.intro (fun _ => ?_) (fun h => absurd h (by decide))) | (refine And.intro (fun h => absurd h (by decide)) (fun _ => ?_)))); (repeat (with_reducible refine And.intro acl ?_)); (first | (refine hK _ _ ?_) | (refine ⟨_, rfl, hK _ _ ?_⟩) | (refine Or.inl (hK _ _ ?_)) | (refine ⟨_, _, Or.inl (sp.go _), (by first | exact ⟨[], (List.append_nil _).symm⟩ | exact ⟨_, rfl⟩), hK _ _ ?_⟩) | (refine ⟨_, _, Or.inl (sp.go _), hK _ _ ?_⟩) | (refine ⟨_, _, Or.inl (sp.go _).weakQ, hK _ _ ?_⟩)); clear hK K)
      | (with_reducible refine lops_nil ?_)
      | (with_reducible first | refine lavc_reg ?_ | refine lavc_seq ?_ | refine lavc_block ?_ | refine lavc_skip ?_ | refine lavc_exit ?_ | refine lavc_ret ?_ | refine lavcR_round ?_)
      | (refine lavc_cond rfl (fun _ => ?_) (fun hc => absurd hc (by decide)))
      | (refine lavc_cond rfl (fun hc => absurd hc (by decide)) (fun _ => ?_))
      | (simp only [↓reduceIte, Nat.reduceEqDiff, reduceCtorEq]))
    refine And.intro (by simp) ?_
    simp (disch := first | exact dch | fail) only [go_sem, Nat.reduceAdd, Nat.reduceSub, reduceIte, Nat.reduceEqDiff, Int.reduceToNat, Int.reduceBEq, Int.reduceBNe, aret, aretL, aret1, aenv]
    (repeat (with_reducible refine And.intro acl ?_))
    exact end0 (NR.v _) rfl
  have d1 : decide ((n : Int) < 100) = false := by rw [decide_eq_false_iff_not]; omega
  have d2 : decide ((n : Int) < 0) = false := by rw [decide_eq_false_iff_not]; omega
  have np := numDigits_p n (by omega) h2
  have hn4 : nd4 n = 3 ∨ nd4 n = 4 := by unfold nd4; rw [if_neg (by omega), if_neg (by omega)]; split <;> simp
  have hn5 : n < 10 ^ nd4 n := by
    unfold nd4
    rw [if_neg (by omega), if_neg (by omega)]
    split
    · simpa using by omega
    · simpa using h2
  have e1 : IntKind.u64.wrap (n : Int) = n := by rw [IntKind.wrap_u64]; omega
  unfold dd
  obtain ⟨N, hN⟩ : ∃ N, nd4 n = N := ⟨_, rfl⟩
  rw [hN] at np hn4 hn5 ⊢
  have e2 := i64n (1 + (N : Int)) (1 + N) (by omega) (by omega)
  have hz24 : ∀ y ∈ List.replicate 24 (0 : Int), 0 ≤ y ∧ y ≤ 255 := by decide
  have s1 : 1 + N - 1 = N := by omega
  have fa := format_a (cap := 23) (x := true) (H := [⟨ints .u8 (List.replicate 24 0), 0, true, 120⟩]) (b := 0) (l := List.replicate 24 0) rfl hz24 (show 1 ≤ N by omega) (by simp; omega) (by simp) hn5 (by omega)
  have tk : List.take N (List.drop 1 (List.take 1 (List.replicate 24 (0 : Int)) ++ digs n N ++ List.drop (1 + N) (List.replicate 24 0))) = digs n N := by
    have h1 : List.take 1 (List.replicate 24 (0 : Int)) = [0] := rfl
    rw [h1, List.append_assoc]
    show List.take N (digs n N ++ _) = _
    exact List.take_left' (digs_length _ _)
  have ln1 : 24 ≤ (List.take 1 (List.replicate 24 (0 : Int))).length + (digs n N).length + (List.drop (1 + N) (List.replicate 24 (0 : Int))).length := by simp [digs_length]; omega
  repeat (first
    | (with_reducible refine lops_step fun K hK => ?_; simp (disch := first | exact dch | fail) only [go_sem, Nat.reduceAdd, Nat.reduceSub, reduceIte, Nat.reduceEqDiff, Int.reduceToNat, Int.reduceBEq, Int.reduceBNe, d0, d1, d2, e1, e2, s1]; (try (first | (refine And.intro (fun _ => ?_) (fun h => absurd h (by decide))) | (refine And.intro (fun h => absurd h (by decide)) (fun _ => ?_)))); (repeat (with_reducible refine And.intro acl ?_)); (first | (refine hK _ _ ?_) | (refine ⟨_, rfl, hK _ _ ?_⟩) | (refine Or.inl (hK _ _ ?_)) | (refine ⟨_, _, Or.inl (np.go _), (by first | exact ⟨[], (List.append_nil _).symm⟩ | exact ⟨_, rfl⟩), hK _ _ ?_⟩) | (refine ⟨_, _, Or.inl (np.go _), hK _ _ ?_⟩) | (refine ⟨_, _, Or.inl (np.go _).weakQ, hK _ _ ?_⟩) | (refine ⟨_, _, Or.inl (fa), (by first | exact ⟨[], (List.append_nil _).symm⟩ | exact ⟨_, rfl⟩), hK _ _ ?_⟩) | (refine ⟨_, _, Or.inl (fa), hK _ _ ?_⟩) | (refine ⟨_, _, Or.inl (fa).weakQ, hK _ _ ?_⟩)); clear hK K)
    | (with_reducible refine lops_nil ?_)
    | (with_reducible first | refine lavc_reg ?_ | refine lavc_seq ?_ | refine lavc_block ?_ | refine lavc_skip ?_ | refine lavc_exit ?_ | refine lavc_ret ?_ | refine lavcR_round ?_)
    | (refine lavc_cond rfl (fun _ => ?_) (fun hc => absurd hc (by decide)))
    | (refine lavc_cond rfl (fun hc => absurd hc (by decide)) (fun _ => ?_))
    | (simp only [↓reduceIte, Nat.reduceEqDiff, reduceCtorEq]))
  refine And.intro (by simp) ?_
  simp (disch := first | exact dch | fail) only [go_sem, Nat.reduceAdd, Nat.reduceSub, reduceIte, Nat.reduceEqDiff, Int.reduceToNat, Int.reduceBEq, Int.reduceBNe, aret, aretL, aret1, aenv]
  (repeat (with_reducible refine And.intro acl ?_))
  exact end0 (NR.v _) (by rw [tk])
theorem iItoa_p (n : Nat) (h2 : n < 10000) : PCall Tryd.prog glob 48 [iv n] (.v (.string (strOf (dd n)))) := by
  refine PCall.of ctx.nr nrs (NR.v _) ?_
  refine lcall48 (by simp) 0 (Nat.le_refl _) ?_
  unfold lc48
  simp only [List.length_cons, List.length_nil, Nat.reduceAdd, Nat.reduceSub, List.replicate_succ, List.replicate_zero, List.cons_append, List.nil_append]
  have fp := FormatInt_p n h2
  have e1 := i64n (n : Int) n rfl (by omega)
  repeat (first
    | (with_reducible refine lops_step fun K hK => ?_; simp (disch := first | exact dch | fail) only [go_sem, Nat.reduceAdd, Nat.reduceSub, reduceIte, Nat.reduceEqDiff, Int.reduceToNat, Int.reduceBEq, Int.reduceBNe, e1]; (repeat (with_reducible refine And.intro acl ?_)); (first | (refine hK _ _ ?_) | (refine ⟨_, rfl, hK _ _ ?_⟩) | (refine Or.inl (hK _ _ ?_)) | (refine ⟨_, _, Or.inl (fp.go _), (by first | exact ⟨[], (List.append_nil _).symm⟩ | exact ⟨_, rfl⟩), hK _ _ ?_⟩) | (refine ⟨_, _, Or.inl (fp.go _), hK _ _ ?_⟩) | (refine ⟨_, _, Or.inl (fp.go _).weakQ, hK _ _ ?_⟩)); clear hK K)
    | (with_reducible refine lops_nil ?_)
    | (with_reducible first | refine lavc_reg ?_ | refine lavc_seq ?_ | refine lavc_block ?_ | refine lavc_skip ?_ | refine lavc_exit ?_ | refine lavc_ret ?_ | refine lavcR_round ?_)
    | (simp only [↓reduceIte, Nat.reduceEqDiff, reduceCtorEq]))
  refine And.intro (by simp) ?_
  simp (disch := first | exact dch | fail) only [go_sem, Nat.reduceAdd, Nat.reduceSub, reduceIte, Nat.reduceEqDiff, Int.reduceToNat, Int.reduceBEq, Int.reduceBNe, aret, aretL, aret1, aenv]
  (repeat (with_reducible refine And.intro acl ?_))
  exact end0 (NR.v _) rfl
theorem Itoa_p (n : Nat) (h2 : n < 10000) : PCall Tryd.prog glob 36 [iv n] (.v (.string (strOf (dd n)))) := by
  refine PCall.of ctx.nr nrs (NR.v _) ?_
  refine lcall36 (by simp) 0 (Nat.le_refl _) ?_
  unfold lc36
  simp only [List.length_cons, List.length_nil, Nat.reduceAdd, Nat.reduceSub, List.replicate_succ, List.replicate_zero, List.cons_append, List.nil_append]
  have fp := iItoa_p n h2
  repeat (first
    | (with_reducible refine lops_step fun K hK => ?_; simp (disch := first | exact dch | fail) only [go_sem, Nat.reduceAdd, Nat.reduceSub, reduceIte, Nat.reduceEqDiff, Int.reduceToNat, Int.reduceBEq, Int.reduceBNe]; (repeat (with_reducible refine And.intro acl ?_)); (first | (refine hK _ _ ?_) | (refine ⟨_, rfl, hK _ _ ?_⟩) | (refine Or.inl (hK _ _ ?_)) | (refine ⟨_, _, Or.inl (fp.go _), (by first | exact ⟨[], (List.append_nil _).symm⟩ | exact ⟨_, rfl⟩), hK _ _ ?_⟩) | (refine ⟨_, _, Or.inl (fp.go _), hK _ _ ?_⟩) | (refine ⟨_, _, Or.inl (fp.go _).weakQ, hK _ _ ?_⟩)); clear hK K)
    | (with_reducible refine lops_nil ?_)
    | (with_reducible first | refine lavc_reg ?_ | refine lavc_seq ?_ | refine lavc_block ?_ | refine lavc_skip ?_ | refine lavc_exit ?_ | refine lavc_ret ?_ | refine lavcR_round ?_)
    | (simp only [↓reduceIte, Nat.reduceEqDiff, reduceCtorEq]))
  refine And.intro (by simp) ?_
  simp (disch := first | exact dch | fail) only [go_sem, Nat.reduceAdd, Nat.reduceSub, reduceIte, Nat.reduceEqDiff, Int.reduceToNat, Int.reduceBEq, Int.reduceBNe, aret, aretL, aret1, aenv]
  (repeat (with_reducible refine And.intro acl ?_))
  exact end0 (NR.v _) rfl
theorem digs1 (n : Nat) : digs n 1 = [((48 + n % 10 : Nat) : Int)] := by simp [digs]
theorem digs2 (n : Nat) : digs n 2 = [((48 + n / 10 % 10 : Nat) : Int), ((48 + n % 10 : Nat) : Int)] := by simp [digs, List.range_succ]
theorem digs3 (n : Nat) : digs n 3 = [((48 + n / 100 % 10 : Nat) : Int), ((48 + n / 10 % 10 : Nat) : Int), ((48 + n % 10 : Nat) : Int)] := by simp [digs, List.range_succ]
theorem digs4 (n : Nat) : digs n 4 = [((48 + n / 1000 % 10 : Nat) : Int), ((48 + n / 100 % 10 : Nat) : Int), ((48 + n / 10 % 10 : Nat) : Int), ((48 + n % 10 : Nat) : Int)] := by simp [digs, List.range_succ]
theorem pad4 (n : Nat) (h : n < 10000) : List.replicate (4 - nd4 n) 48 ++ dd n = digs n 4 := by
  unfold dd nd4
  have z3 : n < 1000 → ((48 + n / 1000 % 10 : Nat) : Int) = 48 := fun _ => by omega
  have z2 : n < 100 → ((48 + n / 100 % 10 : Nat) : Int) = 48 := fun _ => by omega
  have z1 : n < 10 → ((48 + n / 10 % 10 : Nat) : Int) = 48 := fun _ => by omega
  split
  · rw [digs1, digs4, z3 (by omega), z2 (by omega), z1 (by omega)]; rfl
  split
  · rw [digs2, digs4, z3 (by omega), z2 (by omega)]; rfl
  split
  · rw [digs3, digs4, z3 (by omega)]; rfl
  · rfl
theorem pad2 (n : Nat) (h : n < 100) : List.replicate (2 - nd4 n) 48 ++ dd n = digs n 2 := by
  unfold dd nd4
  have z1 : n < 10 → ((48 + n / 10 % 10 : Nat) : Int) = 48 := fun _ => by omega
  split
  · rw [digs1, digs2, z1 (by omega)]; rfl
  · first | rfl | (rw [if_pos h]; rfl)
theorem strOf_append (a b : List Int) : strOf a ++ strOf b = strOf (a ++ b) := by
  apply WideShapes.bytes_inj
  simp [strOf]
theorem dd_length (n : Nat) : (dd n).length = nd4 n := digs_length _ _
theorem nd4_le (n : Nat) : 1 ≤ nd4 n ∧ nd4 n ≤ 4 := by
  unfold nd4
  split
  · omega
  split
  · omega
  split
  · omega
  · omega
theorem padded4_p (n : Nat) (h : n < 10000) : PCall Tryd.prog glob 21 [iv n, iv 4] (.v (.string (strOf (digs n 4)))) := by
  refine PCall.of ctx.nr nrs (NR.v _) ?_
  refine lcall21 (by simp) 0 (Nat.le_refl _) ?_
  unfold lc21
  simp only [List.length_cons, List.length_nil, Nat.reduceAdd, Nat.reduceSub, List.replicate_succ, List.replicate_zero, List.cons_append, List.nil_append]
  have ip := Itoa_p n h
  have hl := nd4_le n
  have rp := rep_c (4 - nd4 n) (by omega)
  have hs : (dd n).length = nd4 n := dd_length n
  have e1 := i64n (4 - (nd4 n : Int)) (4 - nd4 n) (by omega) (by omega)
  repeat (first
    | (with_reducible refine lops_step fun K hK => ?_; simp (disch := first | exact dch | fail) only [go_sem, Nat.reduceAdd, Nat.reduceSub, reduceIte, Nat.reduceEqDiff, Int.reduceToNat, Int.reduceBEq, Int.reduceBNe, hs, e1, str_size, List.length_replicate, strOf_append, pad4 n h]; (repeat (with_reducible refine And.intro acl ?_)); (first | (refine hK _ _ ?_) | (refine ⟨_, rfl, hK _ _ ?_⟩) | (refine Or.inl (hK _ _ ?_)) | (refine ⟨_, _, Or.inl (ip.go _), (by first | exact ⟨[], (List.append_nil _).symm⟩ | exact ⟨_, rfl⟩), hK _ _ ?_⟩) | (refine ⟨_, _, Or.inl (ip.go _), hK _ _ ?_⟩) | (refine ⟨_, _, Or.inl (ip.go _).weakQ, hK _ _ ?_⟩) | (refine ⟨_, _, Or.inl (rp.go _), (by first | exact ⟨[], (List.append_nil _).symm⟩ | exact ⟨_, rfl⟩), hK _ _ ?_⟩) | (refine ⟨_, _, Or.inl (rp.go _), hK _ _ ?_⟩) | (refine ⟨_, _, Or.inl (rp.go _).weakQ, hK _ _ ?_⟩)); clear hK K)
    | (with_reducible refine lops_nil ?_)
    | (with_reducible first | refine lavc_reg ?_ | refine lavc_seq ?_ | refine lavc_block ?_ | refine lavc_skip ?_ | refine lavc_exit ?_ | refine lavc_ret ?_ | refine lavcR_round ?_)
    | (simp only [↓reduceIte, Nat.reduceEqDiff, reduceCtorEq]))
  refine And.intro (by simp) ?_
  simp (disch := first | exact dch | fail) only [go_sem, Nat.reduceAdd, Nat.reduceSub, reduceIte, Nat.reduceEqDiff, Int.reduceToNat, Int.reduceBEq, Int.reduceBNe, aret, aretL, aret1, aenv]
  (repeat (with_reducible refine And.intro acl ?_))
  exact end0 (NR.v _) rfl
theorem padded2_p (n : Nat) (h : n < 100) : PCall Tryd.prog glob 21 [iv n, iv 2] (.v (.string (strOf (digs n 2)))) := by
  refine PCall.of ctx.nr nrs (NR.v _) ?_
  refine lcall21 (by simp) 0 (Nat.le_refl _) ?_
  unfold lc21
  simp only [List.length_cons, List.length_nil, Nat.reduceAdd, Nat.reduceSub, List.replicate_succ, List.replicate_zero, List.cons_append, List.nil_append]
  have ip := Itoa_p n (by omega)
  have hl := nd4_le n
  have hl2 : nd4 n ≤ 2 := by
    unfold nd4
    split
    · omega
    · first | omega | (rw [if_pos h]; omega)
  have rp := rep_c (2 - nd4 n) (by omega)
  have hs : (dd n).length = nd4 n := dd_length n
  have e1 := i64n (2 - (nd4 n : Int)) (2 - nd4 n) (by omega) (by omega)
  repeat (first
    | (with_reducible refine lops_step fun K hK => ?_; simp (disch := first | exact dch | fail) only [go_sem, Nat.reduceAdd, Nat.reduceSub, reduceIte, Nat.reduceEqDiff, Int.reduceToNat, Int.reduceBEq, Int.reduceBNe, hs, e1, str_size, List.length_replicate, strOf_append, pad2 n h]; (repeat (with_reducible refine And.intro acl ?_)); (first | (refine hK _ _ ?_) | (refine ⟨_, rfl, hK _ _ ?_⟩) | (refine Or.inl (hK _ _ ?_)) | (refine ⟨_, _, Or.inl (ip.go _), (by first | exact ⟨[], (List.append_nil _).symm⟩ | exact ⟨_, rfl⟩), hK _ _ ?_⟩) | (refine ⟨_, _, Or.inl (ip.go _), hK _ _ ?_⟩) | (refine ⟨_, _, Or.inl (ip.go _).weakQ, hK _ _ ?_⟩) | (refine ⟨_, _, Or.inl (rp.go _), (by first | exact ⟨[], (List.append_nil _).symm⟩ | exact ⟨_, rfl⟩), hK _ _ ?_⟩) | (refine ⟨_, _, Or.inl (rp.go _), hK _ _ ?_⟩) | (refine ⟨_, _, Or.inl (rp.go _).weakQ, hK _ _ ?_⟩)); clear hK K)
    | (with_reducible refine lops_nil ?_)
    | (with_reducible first | refine lavc_reg ?_ | refine lavc_seq ?_ | refine lavc_block ?_ | refine lavc_skip ?_ | refine lavc_exit ?_ | refine lavc_ret ?_ | refine lavcR_round ?_)
    | (simp only [↓reduceIte, Nat.reduceEqDiff, reduceCtorEq]))
  refine And.intro (by simp) ?_
  simp (disch := first | exact dch | fail) only [go_sem, Nat.reduceAdd, Nat.reduceSub, reduceIte, Nat.reduceEqDiff, Int.reduceToNat, Int.reduceBEq, Int.reduceBNe, aret, aretL, aret1, aenv]
  (repeat (with_reducible refine And.intro acl ?_))
  exact end0 (NR.v _) rfl
open Go.Proofs
open Go.Abs.H
set_option linter.unusedVariables false
set_option linter.unusedSimpArgs false
set_option maxRecDepth 100000
set_option maxHeartbeats 2000000
theorem ahead_366 (k : Nat) : aheadY k ≤ 366 * k := by
  unfold aheadY
  omega
theorem of_p (t : Mom) (ht : t.ok) : PCall Tryd.prog glob 19 [iv (secs t)] (mv t) := by
  refine PCall.of ctx.nr nrs (NR.mv t) ?_
  refine lcall19 (by simp) 0 (Nat.le_refl _) ?_
  unfold lc19
  simp only [List.length_cons, List.length_nil, Nat.reduceAdd, Nat.reduceSub, List.replicate_succ, List.replicate_zero, List.cons_append, List.nil_append]
  have hp := secs_parts ht
  have hin := secs_in ht
  obtain ⟨hx, hh⟩ := ht
  have hyr := day_year hx
  have ha := hx.all
  have hdb := day_bound hx
  have hdd : dayN t.x = aheadY t.x.y + msum t.x.y (t.x.m - 1).toNat + t.x.d - 1 := rfl
  have hdm := hx.2
  unfold tFirst tLast at hin
  obtain ⟨N, hN⟩ : ∃ N : Nat, secs t + 62167219200 = N := ⟨(secs t + 62167219200).toNat, by omega⟩
  rw [hN] at hp
  obtain ⟨⟨y0, m0, d⟩, h, i, s⟩ := t
  simp only at hp hh hyr ha hdd hdb hdm
  obtain ⟨y, rfl⟩ := Int.eq_ofNat_of_zero_le (show 0 ≤ y0 by omega)
  obtain ⟨mm, rfl⟩ : ∃ mm : Nat, m0 = (mm : Int) + 1 := ⟨(m0 - 1).toNat, by omega⟩
  have emm : ((mm : Int) + 1 - 1).toNat = mm := by omega
  rw [emm] at hdd
  obtain ⟨n, hn⟩ : ∃ n, secs ⟨⟨(y : Int), (mm : Int) + 1, d⟩, h, i, s⟩ = n := ⟨_, rfl⟩
  obtain ⟨Dd, hD⟩ : ∃ Dd, dayN ⟨(y : Int), (mm : Int) + 1, d⟩ = Dd := ⟨_, rfl⟩
  rw [hn] at hN hin
  rw [hD] at hp hyr hdb hdd
  rw [hn]
  clear hn hD
  obtain ⟨D, rfl⟩ := Int.eq_ofNat_of_zero_le hdb.1
  have p1 : N / 86400 = D := by omega
  have w1 := i64n (n + 62167219200) N hN (by omega)
  have t1 : (N : Int).tdiv 86400 = (D : Int) := by rw [← p1]; exact tdivN N 86400
  have w2 := i64n (D : Int) D rfl (by omega)
  have t2 : (D : Int).tdiv 366 = ((D / 366 : Nat) : Int) := tdivN D 366
  have w3 := i64n ((D / 366 : Nat) : Int) (D / 366) rfl (by omega)
  repeat (first
    | (with_reducible refine lops_step fun K hK => ?_; simp (disch := first | exact dch | fail) only [go_sem, Nat.reduceAdd, Nat.reduceSub, reduceIte, Nat.reduceEqDiff, Int.reduceToNat, Int.reduceBEq, Int.reduceBNe, w1, w2, w3, t1, t2]; (repeat (with_reducible refine And.intro acl ?_)); (first | (refine hK _ _ ?_) | (refine ⟨_, rfl, hK _ _ ?_⟩) | (refine Or.inl (hK _ _ ?_))); clear hK K)
    | (with_reducible refine lops_nil ?_)
    | (with_reducible first | refine lavc_reg ?_ | refine lavc_seq ?_ | refine lavc_block ?_ | refine lavc_skip ?_ | refine lavc_exit ?_ | refine lavc_ret ?_ | refine lavcR_round ?_)
    | (simp only [↓reduceIte, Nat.reduceEqDiff, reduceCtorEq]))
  have hY0 : D / 366 ≤ y := by
    rcases Nat.lt_or_ge y (D / 366) with hlt | hge
    · have a1 := ahead_le (a := (y : Int) + 1) (b := ((D / 366 : Nat) : Int)) (by omega) (by omega)
      have a2 := ahead_366 (D / 366)
      omega
    · exact hge
  refine lavc_loopM ms19_0 (fun m (Y : Nat) => m + Y = y) (fun Y => []) (fun Y => [⟨[iv 0, iv 0, iv 0, iv 0, iv 0, iv 0], 0, true, 58⟩, ⟨[iv Y, iv 1, iv D], 0, true, 56⟩]) (y - D / 366) (D / 366) (by omega) ?_ ?_ ?_
  · simp only [ms19_0, putAll, blank, List.foldl_cons, List.foldl_nil, List.set_cons_succ, List.set_cons_zero, List.cons_append, List.nil_append, ALe, true_or, or_true, and_true, true_and, eq_self, reduceCtorEq, false_or]
  · rfl
  intro m Y hY
  simp only [ms19_0, putAll, blank, List.foldl_cons, List.foldl_nil, List.set_cons_succ, List.set_cons_zero, List.cons_append, List.nil_append]
  have e1 := i64n ((Y : Int) + 1) (Y + 1) (by omega) (by omega)
  have ap := ahead_p (Y + 1) (by omega)
  repeat (first
    | (with_reducible refine lops_step fun K hK => ?_; simp (disch := first | exact dch | fail) only [go_sem, Nat.reduceAdd, Nat.reduceSub, reduceIte, Nat.reduceEqDiff, Int.reduceToNat, Int.reduceBEq, Int.reduceBNe, e1, t1, w2]; (repeat (with_reducible refine And.intro acl ?_)); (first | (refine hK _ _ ?_) | (refine ⟨_, rfl, hK _ _ ?_⟩) | (refine Or.inl (hK _ _ ?_)) | (refine ⟨_, _, Or.inl (ap.go _), (by first | exact ⟨[], (List.append_nil _).symm⟩ | exact ⟨_, rfl⟩), hK _ _ ?_⟩) | (refine ⟨_, _, Or.inl (ap.go _), hK _ _ ?_⟩) | (refine ⟨_, _, Or.inl (ap.go _).weakQ, hK _ _ ?_⟩)); clear hK K)
    | (with_reducible refine lops_nil ?_)
    | (with_reducible first | refine lavc_reg ?_ | refine lavc_seq ?_ | refine lavc_block ?_ | refine lavc_skip ?_ | refine lavc_exit ?_ | refine lavc_ret ?_ | refine lavcR_round ?_)
    | (simp only [↓reduceIte, Nat.reduceEqDiff, reduceCtorEq]))
  refine lavc_cond rfl (fun hc => ?_) (fun hc => ?_) <;> try simp only [decide_eq_true_eq, decide_eq_false_iff_not, Int.not_lt, Int.not_le, beq_iff_eq, bne_iff_ne, bne_eq_false_iff_eq, beq_eq_false_iff_ne, ne_eq, Bool.not_eq_true', Bool.not_eq_false'] at hc
  · have hlt : Y < y := by
      rcases Nat.lt_or_ge Y y with hlt | hge
      · exact hlt
      · obtain rfl : Y = y := by omega
        rw [Int.natCast_succ] at hc
        omega
    repeat (first
      | (with_reducible refine lops_step fun K hK => ?_; simp (disch := first | exact dch | fail) only [go_sem, Nat.reduceAdd, Nat.reduceSub, reduceIte, Nat.reduceEqDiff, Int.reduceToNat, Int.reduceBEq, Int.reduceBNe, e1]; (repeat (with_reducible refine And.intro acl ?_)); (first | (refine hK _ _ ?_) | (refine ⟨_, rfl, hK _ _ ?_⟩) | (refine Or.inl (hK _ _ ?_))); clear hK K)
      | (with_reducible refine lops_nil ?_)
      | (with_reducible first | refine lavc_reg ?_ | refine lavc_seq ?_ | refine lavc_block ?_ | refine lavc_skip ?_ | refine lavc_exit ?_ | refine lavc_ret ?_ | refine lavcR_round ?_)
      | (simp only [↓reduceIte, Nat.reduceEqDiff, reduceCtorEq]))
    refine ⟨m - 1, Y + 1, by omega, by omega, ?_, rfl⟩
    simp only [ms19_0, putAll, blank, List.foldl_cons, List.foldl_nil, List.set_cons_succ, List.set_cons_zero, List.cons_append, List.nil_append, ALe, true_or, or_true, and_true, true_and, eq_self, reduceCtorEq, false_or]
  obtain rfl : Y = y := by
    rcases Nat.lt_or_ge Y y with hlt | hge
    · have a1 := ahead_le (a := ((Y + 1 : Nat) : Int)) (b := (y : Int)) (by omega) (by omega)
      omega
    · omega
  clear ap
  have ap := ahead_p Y (by omega)
  have b0 := ahead_in (k := (Y : Int)) (by omega) (by omega)
  have bs := msum_in (Y : Int) mm (by omega)
  have f1 := i64z (aheadY Y - 1) (by omega)
  have f2 : IntKind.i64.wrap ((D : Int) - (aheadY Y - 1)) = msum Y mm + d - msum Y 0 := by
    have z : msum Y 0 = 0 := rfl
    rw [i64z _ (by omega)]
    omega
  repeat (first
    | (with_reducible refine lops_step fun K hK => ?_; simp (disch := first | exact dch | fail) only [go_sem, Nat.reduceAdd, Nat.reduceSub, reduceIte, Nat.reduceEqDiff, Int.reduceToNat, Int.reduceBEq, Int.reduceBNe, f1, f2]; (repeat (with_reducible refine And.intro acl ?_)); (first | (refine hK _ _ ?_) | (refine ⟨_, rfl, hK _ _ ?_⟩) | (refine Or.inl (hK _ _ ?_)) | (refine ⟨_, _, Or.inl (ap.go _), (by first | exact ⟨[], (List.append_nil _).symm⟩ | exact ⟨_, rfl⟩), hK _ _ ?_⟩) | (refine ⟨_, _, Or.inl (ap.go _), hK _ _ ?_⟩) | (refine ⟨_, _, Or.inl (ap.go _).weakQ, hK _ _ ?_⟩)); clear hK K)
    | (with_reducible refine lops_nil ?_)
    | (with_reducible first | refine lavc_reg ?_ | refine lavc_seq ?_ | refine lavc_block ?_ | refine lavc_skip ?_ | refine lavc_exit ?_ | refine lavc_ret ?_ | refine lavcR_round ?_)
    | (simp only [↓reduceIte, Nat.reduceEqDiff, reduceCtorEq]))
  refine lavc_loopM ms19_1 (fun m (q : Nat) => m + q = mm) (fun q => []) (fun q => [⟨[iv 0, iv 0, iv 0, iv 0, iv 0, iv 0], 0, true, 58⟩, ⟨[iv Y, iv ((q : Int) + 1), iv (msum Y mm + d - msum Y q)], 0, true, 56⟩]) mm 0 (by omega) ?_ ?_ ?_
  · simp only [ms19_1, putAll, blank, List.foldl_cons, List.foldl_nil, List.set_cons_succ, List.set_cons_zero, List.cons_append, List.nil_append, ALe, true_or, or_true, and_true, true_and, eq_self, reduceCtorEq, false_or]
  · rfl
  clear m hY
  intro m q hq
  simp only [ms19_1, putAll, blank, List.foldl_cons, List.foldl_nil, List.set_cons_succ, List.set_cons_zero, List.cons_append, List.nil_append]
  have dp := Days_p (Y : Int) ((q : Int) + 1) (by omega)
  have bq := msum_in (Y : Int) q (by omega)
  have bm := mdays_le (Y : Int) ((q : Int) + 1)
  have eq1 : msum Y (q + 1) = msum Y q + mdays Y ((q : Int) + 1) := rfl
  repeat (first
    | (with_reducible refine lops_step fun K hK => ?_; simp (disch := first | exact dch | fail) only [go_sem, Nat.reduceAdd, Nat.reduceSub, reduceIte, Nat.reduceEqDiff, Int.reduceToNat, Int.reduceBEq, Int.reduceBNe]; (repeat (with_reducible refine And.intro acl ?_)); (first | (refine hK _ _ ?_) | (refine ⟨_, rfl, hK _ _ ?_⟩) | (refine Or.inl (hK _ _ ?_)) | (refine ⟨_, _, Or.inl (dp.go _), (by first | exact ⟨[], (List.append_nil _).symm⟩ | exact ⟨_, rfl⟩), hK _ _ ?_⟩) | (refine ⟨_, _, Or.inl (dp.go _), hK _ _ ?_⟩) | (refine ⟨_, _, Or.inl (dp.go _).weakQ, hK _ _ ?_⟩)); clear hK K)
    | (with_reducible refine lops_nil ?_)
    | (with_reducible first | refine lavc_reg ?_ | refine lavc_seq ?_ | refine lavc_block ?_ | refine lavc_skip ?_ | refine lavc_exit ?_ | refine lavc_ret ?_ | refine lavcR_round ?_)
    | (simp only [↓reduceIte, Nat.reduceEqDiff, reduceCtorEq]))
  refine lavc_cond rfl (fun hc => ?_) (fun hc => ?_) <;> try simp only [decide_eq_true_eq, decide_eq_false_iff_not, Int.not_lt, Int.not_le, beq_iff_eq, bne_iff_ne, bne_eq_false_iff_eq, beq_eq_false_iff_ne, ne_eq, Bool.not_eq_true', Bool.not_eq_false'] at hc
  · have hlt : q < mm := by
      rcases Nat.lt_or_ge q mm with hlt | hge
      · exact hlt
      · obtain rfl : q = mm := by omega
        omega
    have g1 : IntKind.i64.wrap (msum Y mm + d - msum Y q - mdays Y ((q : Int) + 1)) = msum Y mm + d - msum Y (q + 1) := by
      rw [i64z _ (by omega)]
      omega
    have g2 := i64n ((q : Int) + 1 + 1) (q + 2) (by omega) (by omega)
    repeat (first
      | (with_reducible refine lops_step fun K hK => ?_; simp (disch := first | exact dch | fail) only [go_sem, Nat.reduceAdd, Nat.reduceSub, reduceIte, Nat.reduceEqDiff, Int.reduceToNat, Int.reduceBEq, Int.reduceBNe, g1, g2]; (repeat (with_reducible refine And.intro acl ?_)); (first | (refine hK _ _ ?_) | (refine ⟨_, rfl, hK _ _ ?_⟩) | (refine Or.inl (hK _ _ ?_)) | (refine ⟨_, _, Or.inl (dp.go _), (by first | exact ⟨[], (List.append_nil _).symm⟩ | exact ⟨_, rfl⟩), hK _ _ ?_⟩) | (refine ⟨_, _, Or.inl (dp.go _), hK _ _ ?_⟩) | (refine ⟨_, _, Or.inl (dp.go _).weakQ, hK _ _ ?_⟩)); clear hK K)
      | (with_reducible refine lops_nil ?_)
      | (with_reducible first | refine lavc_reg ?_ | refine lavc_seq ?_ | refine lavc_block ?_ | refine lavc_skip ?_ | refine lavc_exit ?_ | refine lavc_ret ?_ | refine lavcR_round ?_)
      | (simp only [↓reduceIte, Nat.reduceEqDiff, reduceCtorEq]))
    refine ⟨m - 1, q + 1, by omega, by omega, ?_, ?_⟩
    · simp only [ms19_1, putAll, blank, List.foldl_cons, List.foldl_nil, List.set_cons_succ, List.set_cons_zero, List.cons_append, List.nil_append, ALe, true_or, or_true, and_true, true_and, eq_self, reduceCtorEq, false_or]
    · rw [show (((q + 1 : Nat) : Int) + 1) = ((q + 2 : Nat) : Int) from by omega]
  obtain rfl : q = mm := by
    rcases Nat.lt_or_ge q mm with hlt | hge
    · have := msum_mono (Y : Int) (a := q + 1) (b := mm) (by omega)
      omega
    · omega
  have ed : msum Y q + d - msum Y q = d := by omega
  have r1 : (N : Int).tmod 86400 = ((N % 86400 : Nat) : Int) := tmodN N 86400
  have r2 := i64n ((N % 86400 : Nat) : Int) (N % 86400) rfl (by omega)
  have r3 : ((N % 86400 : Nat) : Int).tdiv 3600 = h := by rw [show ((N % 86400 : Nat) : Int).tdiv 3600 = ((N % 86400 / 3600 : Nat) : Int) from tdivN _ 3600]; omega
  have r4 : ((N % 86400 : Nat) : Int).tmod 3600 = ((N % 86400 % 3600 : Nat) : Int) := tmodN _ 3600
  have r5 := i64n ((N % 86400 % 3600 : Nat) : Int) (N % 86400 % 3600) rfl (by omega)
  have r6 : ((N % 86400 % 3600 : Nat) : Int).tdiv 60 = i := by rw [show ((N % 86400 % 3600 : Nat) : Int).tdiv 60 = ((N % 86400 % 3600 / 60 : Nat) : Int) from tdivN _ 60]; omega
  have r7 : ((N % 86400 : Nat) : Int).tmod 60 = s := by rw [show ((N % 86400 : Nat) : Int).tmod 60 = ((N % 86400 % 60 : Nat) : Int) from tmodN _ 60]; omega
  have r8 := i64z h (by omega)
  have r9 := i64z i (by omega)
  have r10 := i64z s (by omega)
  have s0 : ∀ a b c : AV, splice (ints .i64 (List.replicate 6 0)) 0 [a, b, c] = [a, b, c, iv 0, iv 0, iv 0] := fun _ _ _ => rfl
  have s3 : ∀ a b c d e f x : AV, splice [a, b, c, d, e, f] 3 [x] = [a, b, c, x, e, f] := fun _ _ _ _ _ _ _ => rfl
  have s4 : ∀ a b c d e f x : AV, splice [a, b, c, d, e, f] 4 [x] = [a, b, c, d, x, f] := fun _ _ _ _ _ _ _ => rfl
  have s5 : ∀ a b c d e f x : AV, splice [a, b, c, d, e, f] 5 [x] = [a, b, c, d, e, x] := fun _ _ _ _ _ _ _ => rfl
  repeat (first
    | (with_reducible refine lops_step fun K hK => ?_; simp (disch := first | exact dch | fail) only [go_sem, Nat.reduceAdd, Nat.reduceSub, reduceIte, Nat.reduceEqDiff, Int.reduceToNat, Int.reduceBEq, Int.reduceBNe, s0, s3, s4, s5, List.length_cons, List.length_nil, ed, r1, r2, r3, r4, r5, r6, r7, r8, r9, r10]; (repeat (with_reducible refine And.intro acl ?_)); (first | (refine hK _ _ ?_) | (refine ⟨_, rfl, hK _ _ ?_⟩) | (refine Or.inl (hK _ _ ?_))); clear hK K)
    | (with_reducible refine lops_nil ?_)
    | (with_reducible first | refine lavc_reg ?_ | refine lavc_seq ?_ | refine lavc_block ?_ | refine lavc_skip ?_ | refine lavc_exit ?_ | refine lavc_ret ?_ | refine lavcR_round ?_)
    | (simp only [↓reduceIte, Nat.reduceEqDiff, reduceCtorEq]))
  refine And.intro (by simp) ?_
  simp (disch := first | exact dch | fail) only [go_sem, Nat.reduceAdd, Nat.reduceSub, reduceIte, Nat.reduceEqDiff, Int.reduceToNat, Int.reduceBEq, Int.reduceBNe, aret, aretL, aret1, aenv]
  (repeat (with_reducible refine And.intro acl ?_))
  exact end0 (NR.mv _) rfl
open Go.Proofs
open Go.Abs.H
set_option linter.unusedVariables false
set_option linter.unusedSimpArgs false
set_option maxRecDepth 100000
set_option maxHeartbeats 4000000
theorem Text_bad (n : Int) (h : ¬ (tFirst ≤ n ∧ n ≤ tLast)) : PCall Tryd.prog glob 9 [iv n] (.tup [.v (.string ⟨#[]⟩), iv 12]) := by
  refine PCall.of ctx.nr nrs (NR.t2 _ _) ?_
  refine lcall9 (by simp) 0 (Nat.le_refl _) ?_
  unfold lc9
  simp only [List.length_cons, List.length_nil, Nat.reduceAdd, Nat.reduceSub, List.replicate_succ, List.replicate_zero, List.cons_append, List.nil_append]
  have tp := time_p n
  rw [decide_eq_false h] at tp
  repeat (first
    | (with_reducible refine lops_step fun K hK => ?_; simp (disch := first | exact dch | fail) only [go_sem, Nat.reduceAdd, Nat.reduceSub, reduceIte, Nat.reduceEqDiff, Int.reduceToNat, Int.reduceBEq, Int.reduceBNe]; (try (first | (refine And.intro (fun _ => ?_) (fun h => absurd h (by decide))) | (refine And.intro (fun h => absurd h (by decide)) (fun _ => ?_)))); (repeat (with_reducible refine And.intro acl ?_)); (first | (refine hK _ _ ?_) | (refine ⟨_, rfl, hK _ _ ?_⟩) | (refine Or.inl (hK _ _ ?_)) | (refine ⟨_, _, Or.inl (tp.go _), (by first | exact ⟨[], (List.append_nil _).symm⟩ | exact ⟨_, rfl⟩), hK _ _ ?_⟩) | (refine ⟨_, _, Or.inl (tp.go _), hK _ _ ?_⟩) | (refine ⟨_, _, Or.inl (tp.go _).weakQ, hK _ _ ?_⟩)); clear hK K)
    | (with_reducible refine lops_nil ?_)
    | (with_reducible first | refine lavc_reg ?_ | refine lavc_seq ?_ | refine lavc_block ?_ | refine lavc_skip ?_ | refine lavc_exit ?_ | refine lavc_ret ?_ | refine lavcR_round ?_)
    | (refine lavc_cond rfl (fun _ => ?_) (fun hc => absurd hc (by decide)))
    | (refine lavc_cond rfl (fun hc => absurd hc (by decide)) (fun _ => ?_))
    | (simp only [↓reduceIte, Nat.reduceEqDiff, reduceCtorEq]))
  refine And.intro (by simp) ?_
  simp (disch := first | exact dch | fail) only [go_sem, Nat.reduceAdd, Nat.reduceSub, reduceIte, Nat.reduceEqDiff, Int.reduceToNat, Int.reduceBEq, Int.reduceBNe, aret, aretL, aret1, aenv]
  (repeat (with_reducible refine And.intro acl ?_))
  exact end0 (NR.t2 _ _) rfl
/-- A moment's text. -/
def txt (t : Mom) : List Int := digs t.x.y.toNat 4 ++ (45 :: digs t.x.m.toNat 2) ++ (45 :: digs t.x.d.toNat 2) ++ (84 :: digs t.h.toNat 2) ++ (58 :: digs t.i.toNat 2) ++ (58 :: digs t.s.toNat 2) ++ [90]
theorem digs_byte (u n : Nat) : ∀ x ∈ digs u n, 48 ≤ x ∧ x ≤ 57 := fun x hx => by
  obtain ⟨t, _, rfl⟩ := List.mem_map.1 hx
  have : u / 10 ^ (n - 1 - t) % 10 < 10 := Nat.mod_lt _ (by decide)
  generalize u / 10 ^ (n - 1 - t) % 10 = q at *
  omega
theorem digs_bytes (u n : Nat) : bytesOf (strOf (digs u n)) = digs u n := bytes_str fun x hx => by have := digs_byte u n x hx; omega
theorem sep_bytes (c : Int) (hc : 0 ≤ c ∧ c ≤ 255) (u n : Nat) : bytesOf (strOf (c :: digs u n)) = c :: digs u n := bytes_str fun x hx => by
  rcases List.mem_cons.1 hx with rfl | hx
  · exact hc
  · have := digs_byte u n x hx
    omega
theorem Text_p (t : Mom) (ht : t.ok) : PCall Tryd.prog glob 9 [iv (secs t)] (.tup [.v (.string (strOf (txt t))), iv 0]) := by
  refine PCall.of ctx.nr nrs (NR.t2 _ _) ?_
  refine lcall9 (by simp) 0 (Nat.le_refl _) ?_
  unfold lc9
  simp only [List.length_cons, List.length_nil, Nat.reduceAdd, Nat.reduceSub, List.replicate_succ, List.replicate_zero, List.cons_append, List.nil_append]
  have tp := time_p (secs t)
  rw [decide_eq_true (secs_in ht)] at tp
  have op := of_p t ht
  have ha := ht.1.all
  have hh := ht.2
  obtain ⟨y, hy⟩ := Int.eq_ofNat_of_zero_le (show 0 ≤ t.x.y by omega)
  obtain ⟨m, hm⟩ := Int.eq_ofNat_of_zero_le (show 0 ≤ t.x.m by omega)
  obtain ⟨d, hd⟩ := Int.eq_ofNat_of_zero_le (show 0 ≤ t.x.d by omega)
  obtain ⟨h, hh0⟩ := Int.eq_ofNat_of_zero_le (show 0 ≤ t.h by omega)
  obtain ⟨i, hi0⟩ := Int.eq_ofNat_of_zero_le (show 0 ≤ t.i by omega)
  obtain ⟨s, hs0⟩ := Int.eq_ofNat_of_zero_le (show 0 ≤ t.s by omega)
  have etx : txt t = digs y 4 ++ (45 :: digs m 2) ++ (45 :: digs d 2) ++ (84 :: digs h 2) ++ (58 :: digs i 2) ++ (58 :: digs s 2) ++ [90] := by
    unfold txt
    rw [hy, hm, hd, hh0, hi0, hs0]
    rfl
  have emv : mv t = .agg [iv y, iv m, iv d, iv h, iv i, iv s] := by unfold mv; rw [hy, hm, hd, hh0, hi0, hs0]
  rw [emv] at op
  rw [etx]
  obtain ⟨n, hn⟩ : ∃ n, secs t = n := ⟨_, rfl⟩
  rw [hn] at tp op ⊢
  have py := padded4_p y (by omega)
  have pm := padded2_p m (by omega)
  have pd := padded2_p d (by omega)
  have ph := padded2_p h (by omega)
  have pi := padded2_p i (by omega)
  have ps := padded2_p s (by omega)
  have z2 : (strOf (digs y 4)).size = 4 := by rw [str_size, digs_length]
  have e22 : ∀ (u : Nat), (strOf (digs u 2)).size = 2 := fun u => by rw [str_size, digs_length]
  have e3 : ∀ (c : Int) (u : Nat), (strOf (c :: digs u 2)).size = 3 := fun c u => by rw [str_size, List.length_cons, digs_length]
  have k0 : ({ data := #[45, 45, 84, 58, 58] } : ByteArray).extract 0 1 = strOf [45] := rfl
  have k1 : ({ data := #[45, 45, 84, 58, 58] } : ByteArray).extract 1 2 = strOf [45] := rfl
  have k2 : ({ data := #[45, 45, 84, 58, 58] } : ByteArray).extract 2 3 = strOf [84] := rfl
  have k3 : ({ data := #[45, 45, 84, 58, 58] } : ByteArray).extract 3 4 = strOf [58] := rfl
  have k4 : ({ data := #[45, 45, 84, 58, 58] } : ByteArray).extract 4 5 = strOf [58] := rfl
  have s1 : ∀ c, (strOf [c]).size = 1 := fun c => by rw [str_size]; rfl
  have ks : ({ data := #[45, 45, 84, 58, 58] } : ByteArray).size = 5 := rfl
  have b45 := fun u => sep_bytes 45 (by decide) u 2
  have b84 := fun u => sep_bytes 84 (by decide) u 2
  have b58 := fun u => sep_bytes 58 (by decide) u 2
  have by4 := digs_bytes y 4
  refine lavc_seq (lavc_reg ?_)
  repeat (first
    | (with_reducible refine lops_step fun K hK => ?_; simp (disch := first | exact dch | fail) only [go_sem, Nat.reduceAdd, Nat.reduceSub, reduceIte, Nat.reduceEqDiff, Int.reduceToNat, Int.reduceBEq, Int.reduceBNe]; (repeat (with_reducible refine And.intro acl ?_)); (first | (refine hK _ _ ?_) | (refine ⟨_, rfl, hK _ _ ?_⟩) | (refine Or.inl (hK _ _ ?_))); clear hK K)
    | (with_reducible refine lops_nil ?_)
    | (with_reducible first | refine lavc_seq ?_ | refine lavc_block ?_ | refine lavc_skip ?_ | refine lavc_exit ?_ | refine lavc_ret ?_ | refine lavcR_round ?_)
    | (simp only [↓reduceIte, Nat.reduceEqDiff, reduceCtorEq]))
  refine lavc_reg ?_
  repeat (first
    | (with_reducible refine lops_step fun K hK => ?_; simp (disch := first | exact dch | fail) only [go_sem, Nat.reduceAdd, Nat.reduceSub, reduceIte, Nat.reduceEqDiff, Int.reduceToNat, Int.reduceBEq, Int.reduceBNe]; (repeat (with_reducible refine And.intro acl ?_)); (first | (refine hK _ _ ?_) | (refine ⟨_, rfl, hK _ _ ?_⟩) | (refine Or.inl (hK _ _ ?_)) | (refine ⟨_, _, Or.inl (tp.go _), (by first | exact ⟨[], (List.append_nil _).symm⟩ | exact ⟨_, rfl⟩), hK _ _ ?_⟩) | (refine ⟨_, _, Or.inl (tp.go _), hK _ _ ?_⟩) | (refine ⟨_, _, Or.inl (tp.go _).weakQ, hK _ _ ?_⟩)); clear hK K)
    | (with_reducible refine lops_nil ?_)
    | (with_reducible first | refine lavc_seq ?_ | refine lavc_block ?_ | refine lavc_skip ?_ | refine lavc_exit ?_ | refine lavc_ret ?_ | refine lavcR_round ?_)
    | (simp only [↓reduceIte, Nat.reduceEqDiff, reduceCtorEq]))
  refine lavc_condF rfl ?_
  refine lavc_skip ?_
  refine lavc_seq (lavc_reg ?_)
  repeat (first
    | (with_reducible refine lops_step fun K hK => ?_; simp (disch := first | exact dch | fail) only [go_sem, Nat.reduceAdd, Nat.reduceSub, reduceIte, Nat.reduceEqDiff, Int.reduceToNat, Int.reduceBEq, Int.reduceBNe]; (repeat (with_reducible refine And.intro acl ?_)); (first | (refine hK _ _ ?_) | (refine ⟨_, rfl, hK _ _ ?_⟩) | (refine Or.inl (hK _ _ ?_)) | (refine ⟨_, _, Or.inl (op.go _), (by first | exact ⟨[], (List.append_nil _).symm⟩ | exact ⟨_, rfl⟩), hK _ _ ?_⟩) | (refine ⟨_, _, Or.inl (op.go _), hK _ _ ?_⟩) | (refine ⟨_, _, Or.inl (op.go _).weakQ, hK _ _ ?_⟩)); clear hK K)
    | (with_reducible refine lops_nil ?_)
    | (with_reducible first | refine lavc_seq ?_ | refine lavc_block ?_ | refine lavc_skip ?_ | refine lavc_exit ?_ | refine lavc_ret ?_ | refine lavcR_round ?_)
    | (simp only [↓reduceIte, Nat.reduceEqDiff, reduceCtorEq]))
  refine lavc_reg ?_
  repeat (first
    | (with_reducible refine lops_step fun K hK => ?_; simp (disch := first | exact dch | fail) only [go_sem, Nat.reduceAdd, Nat.reduceSub, reduceIte, Nat.reduceEqDiff, Int.reduceToNat, Int.reduceBEq, Int.reduceBNe]; (repeat (with_reducible refine And.intro acl ?_)); (first | (refine hK _ _ ?_) | (refine ⟨_, rfl, hK _ _ ?_⟩) | (refine Or.inl (hK _ _ ?_))); clear hK K)
    | (with_reducible refine lops_nil ?_)
    | (with_reducible first | refine lavc_seq ?_ | refine lavc_block ?_ | refine lavc_skip ?_ | refine lavc_exit ?_ | refine lavc_ret ?_ | refine lavcR_round ?_)
    | (simp only [↓reduceIte, Nat.reduceEqDiff, reduceCtorEq]))
  refine lavc_bld 1 5 rfl rfl ?_
  repeat (first
    | (with_reducible refine lops_step fun K hK => ?_; simp (disch := first | exact dch | fail) only [go_sem, Nat.reduceAdd, Nat.reduceSub, reduceIte, Nat.reduceEqDiff, Int.reduceToNat, Int.reduceBEq, Int.reduceBNe, by4, z2]; (repeat (with_reducible refine And.intro acl ?_)); (first | (refine hK _ _ ?_) | (refine ⟨_, rfl, hK _ _ ?_⟩) | (refine Or.inl (hK _ _ ?_)) | (refine ⟨_, _, Or.inl (py.go _), (by first | exact ⟨[], (List.append_nil _).symm⟩ | exact ⟨_, rfl⟩), hK _ _ ?_⟩) | (refine ⟨_, _, Or.inl (py.go _), hK _ _ ?_⟩) | (refine ⟨_, _, Or.inl (py.go _).weakQ, hK _ _ ?_⟩) | (refine ⟨_, _, Or.inl ((WriteString_a (b := 1) (b1 := 2) rfl rfl rfl (by rw [z2]; decide))), (by first | exact ⟨[], (List.append_nil _).symm⟩ | exact ⟨_, rfl⟩), hK _ _ ?_⟩) | (refine ⟨_, _, Or.inl ((WriteString_a (b := 1) (b1 := 2) rfl rfl rfl (by rw [z2]; decide))), hK _ _ ?_⟩) | (refine ⟨_, _, Or.inl ((WriteString_a (b := 1) (b1 := 2) rfl rfl rfl (by rw [z2]; decide))).weakQ, hK _ _ ?_⟩)); clear hK K)
    | (with_reducible refine lops_nil ?_)
    | (with_reducible first | refine lavc_reg ?_ | refine lavc_seq ?_ | refine lavc_block ?_ | refine lavc_skip ?_ | refine lavc_exit ?_ | refine lavc_ret ?_ | refine lavcR_round ?_)
    | (simp only [↓reduceIte, Nat.reduceEqDiff, reduceCtorEq]))
  have bl : (((((List.replicate 5 (0 : Int)).set 0 m).set 1 d).set 2 h).set 3 i).set 4 s = [(m : Int), d, h, i, s] := rfl
  have i1 : IntKind.i64.wrap (0 + 1) = 1 := by decide
  have i2 : IntKind.i64.wrap (1 + 1) = 2 := by decide
  have i3 : IntKind.i64.wrap (2 + 1) = 3 := by decide
  have i4 : IntKind.i64.wrap (3 + 1) = 4 := by decide
  have i5 : IntKind.i64.wrap (4 + 1) = 5 := by decide
  have dB : ∀ u n : Nat, ∀ x ∈ digs u n, 0 ≤ x ∧ x ≤ 255 := fun u n x hx => by have := digs_byte u n x hx; omega
  have cB : ∀ (c : Int) (u : Nat), 0 ≤ c ∧ c ≤ 255 → ∀ x ∈ c :: digs u 2, 0 ≤ x ∧ x ≤ 255 := fun c u hc x hx => by
    rcases List.mem_cons.1 hx with rfl | hx
    · exact hc
    · exact dB _ _ x hx
  have aB : ∀ a b : List Int, (∀ x ∈ a, 0 ≤ x ∧ x ≤ 255) → (∀ x ∈ b, 0 ≤ x ∧ x ≤ 255) → ∀ x ∈ a ++ b, 0 ≤ x ∧ x ≤ 255 := fun a b h1 h2 x hx => (List.mem_append.1 hx).elim (h1 x) (h2 x)
  have hu := aB _ _ (aB _ _ (aB _ _ (aB _ _ (aB _ _ (dB y 4) (cB 45 m (by decide))) (cB 45 d (by decide))) (cB 84 h (by decide))) (cB 58 i (by decide))) (cB 58 s (by decide))
  have hfin : (strOf (digs y 4 ++ 45 :: digs m 2 ++ 45 :: digs d 2 ++ 84 :: digs h 2 ++ 58 :: digs i 2 ++ 58 :: digs s 2)).size + (#[90] : Array UInt8).size ≤ 9223372036854775807 := by
    rw [str_size]
    simp [digs_length]
  refine lavc_rounds 6 ?_
  repeat (first
    | (with_reducible refine lops_step fun K hK => ?_; simp (disch := first | exact dch | fail) only [go_sem, Nat.reduceAdd, Nat.reduceSub, reduceIte, Nat.reduceEqDiff, Int.reduceToNat, Int.reduceBEq, Int.reduceBNe, bl, i1, i2, i3, i4, i5, List.getD_cons_zero, List.getD_cons_succ, ks, k0, k1, k2, k3, k4, s1, e22, e3, b45, b84, b58, strOf_append, List.cons_append, List.nil_append]; (try (first | (refine And.intro (fun _ => ?_) (fun h => absurd h (by decide))) | (refine And.intro (fun h => absurd h (by decide)) (fun _ => ?_)))); (repeat (with_reducible refine And.intro acl ?_)); (first | (refine hK _ _ ?_) | (refine ⟨_, rfl, hK _ _ ?_⟩) | (refine Or.inl (hK _ _ ?_)) | (refine ⟨_, _, Or.inl (pm.go _), (by first | exact ⟨[], (List.append_nil _).symm⟩ | exact ⟨_, rfl⟩), hK _ _ ?_⟩) | (refine ⟨_, _, Or.inl (pm.go _), hK _ _ ?_⟩) | (refine ⟨_, _, Or.inl (pm.go _).weakQ, hK _ _ ?_⟩) | (refine ⟨_, _, Or.inl (pd.go _), (by first | exact ⟨[], (List.append_nil _).symm⟩ | exact ⟨_, rfl⟩), hK _ _ ?_⟩) | (refine ⟨_, _, Or.inl (pd.go _), hK _ _ ?_⟩) | (refine ⟨_, _, Or.inl (pd.go _).weakQ, hK _ _ ?_⟩) | (refine ⟨_, _, Or.inl (ph.go _), (by first | exact ⟨[], (List.append_nil _).symm⟩ | exact ⟨_, rfl⟩), hK _ _ ?_⟩) | (refine ⟨_, _, Or.inl (ph.go _), hK _ _ ?_⟩) | (refine ⟨_, _, Or.inl (ph.go _).weakQ, hK _ _ ?_⟩) | (refine ⟨_, _, Or.inl (pi.go _), (by first | exact ⟨[], (List.append_nil _).symm⟩ | exact ⟨_, rfl⟩), hK _ _ ?_⟩) | (refine ⟨_, _, Or.inl (pi.go _), hK _ _ ?_⟩) | (refine ⟨_, _, Or.inl (pi.go _).weakQ, hK _ _ ?_⟩) | (refine ⟨_, _, Or.inl (ps.go _), (by first | exact ⟨[], (List.append_nil _).symm⟩ | exact ⟨_, rfl⟩), hK _ _ ?_⟩) | (refine ⟨_, _, Or.inl (ps.go _), hK _ _ ?_⟩) | (refine ⟨_, _, Or.inl (ps.go _).weakQ, hK _ _ ?_⟩) | (refine ⟨_, _, Or.inl ((WriteString_a (b := 1) (b1 := 2) rfl rfl rfl (by simp only [e3, List.length_append, List.length_cons, digs_length]; decide))), (by first | exact ⟨[], (List.append_nil _).symm⟩ | exact ⟨_, rfl⟩), hK _ _ ?_⟩) | (refine ⟨_, _, Or.inl ((WriteString_a (b := 1) (b1 := 2) rfl rfl rfl (by simp only [e3, List.length_append, List.length_cons, digs_length]; decide))), hK _ _ ?_⟩) | (refine ⟨_, _, Or.inl ((WriteString_a (b := 1) (b1 := 2) rfl rfl rfl (by simp only [e3, List.length_append, List.length_cons, digs_length]; decide))).weakQ, hK _ _ ?_⟩) | (refine ⟨_, _, Or.inl ((String_a (b := 1) (b1 := 2) rfl rfl rfl (by simp [digs_length]) hu)), (by first | exact ⟨[], (List.append_nil _).symm⟩ | exact ⟨_, rfl⟩), hK _ _ ?_⟩) | (refine ⟨_, _, Or.inl ((String_a (b := 1) (b1 := 2) rfl rfl rfl (by simp [digs_length]) hu)), hK _ _ ?_⟩) | (refine ⟨_, _, Or.inl ((String_a (b := 1) (b1 := 2) rfl rfl rfl (by simp [digs_length]) hu)).weakQ, hK _ _ ?_⟩)); clear hK K)
    | (with_reducible refine lops_nil ?_)
    | (with_reducible first | refine lavc_reg ?_ | refine lavc_seq ?_ | refine lavc_block ?_ | refine lavc_skip ?_ | refine lavc_exit ?_ | refine lavc_ret ?_ | refine lavcR_round ?_)
    | (refine lavc_cond rfl (fun _ => ?_) (fun hc => absurd hc (by decide)))
    | (refine lavc_cond rfl (fun hc => absurd hc (by decide)) (fun _ => ?_))
    | (simp only [↓reduceIte, Nat.reduceEqDiff, reduceCtorEq]))
  refine And.intro (by simp) ?_
  simp (disch := first | exact dch | fail) only [go_sem, Nat.reduceAdd, Nat.reduceSub, reduceIte, Nat.reduceEqDiff, Int.reduceToNat, Int.reduceBEq, Int.reduceBNe, aret, aretL, aret1, aenv]
  (repeat (with_reducible refine And.intro acl ?_))
  exact end0 (NR.t2 _ _) (by
    have e : ({ data := #[90] } : ByteArray) = strOf [90] := rfl
    rw [e, strOf_append])
end Go.Abs.S
