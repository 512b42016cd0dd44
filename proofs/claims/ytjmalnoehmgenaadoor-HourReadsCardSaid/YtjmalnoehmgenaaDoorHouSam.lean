/- hour: the document's Read, in the program: twenty bytes that have no form. -/
import Derived.Test.YtjmalnoehmgenaaDoorHouSm
namespace Go.Abs.S
attribute [local go_sem] lguard aopO aop nxL aenv toAV tput aLoad aStore vcells aBin aNilI aUn aAlloc aBox aBuild aBSlice afill aConv isIntT aappZ aCap aArr aMM aMake aSlice bnd3 bnd aFldAddr aFld aIdxAddr aIdx aExt aLen aCopy aEq0 bAV aUb aapp aappQ agh acont List.getD_cons_zero List.getD_cons_succ List.set_cons_zero List.set_cons_succ List.getElem?_cons_zero List.getElem?_cons_succ List.length_cons List.length_nil List.map_cons List.map_nil ints_length if_true if_false Bool.false_eq_true true_and and_true eq_self ne_eq not_false_eq_true not_true_eq_false beq_self_eq_true Nat.zero_add Nat.add_zero Nat.mul_one Nat.zero_mul Int.toNat_natCast List.toList_toArray List.all_cons List.all_nil AV.one Value.oneCell' Bool.and_true Bool.true_and forall_const true_implies false_implies implies_true Option.map_some Option.map_none Option.isSome_some Option.isSome_none imp_self rdP_flat rdP_row splice_one ints_set ints_get List.append_nil List.cons_append List.nil_append List.getElem?_toArray List.drop_zero ints_drop ints_take List.take_of_length_le splice_all ints_one Option.some.injEq Option.getD_some List.length_replicate zArr List.map_replicate rep_ints splice_intsR List.length_set List.length_append List.flatten_replicate_singleton rep_slice rep_string rep_bool rep_iface List.replicate_zero if_pos if_neg List.mapM_cons List.mapM_nil Option.pure_def Option.bind_eq_bind Option.bind_some Bool.true_eq_false Bool.not_false Bool.not_true get_concat set_concat
open Go.Proofs
open Go.Abs.H
set_option linter.unusedVariables false
set_option linter.unusedSimpArgs false
set_option maxRecDepth 100000
set_option maxHeartbeats 8000000
theorem refRead_20n (s : ByteArray) (hs : s.size = 20) (hn : ¬ Formed s) : PCall Tryd.prog glob 12 [.v (.string s)] (.tup [iv (readP s).1, iv (readP s).2]) := by
  refine PCall.of ctx.nr (by (repeat (refine List.forall_mem_cons.2 (And.intro (by first | exact NR.v _ | exact NR.agg (NR.ints _ _) | exact NR.vsl (NR.ints _ _) | exact NR.vptr (NR.ints _ _) | assumption) ?_))); exact fun _ h => absurd h List.not_mem_nil) (NR.t2 _ _) ?_
  refine lcall12 (by simp) 0 (Nat.le_refl _) ?_
  unfold lc12
  simp only [List.length_cons, List.length_nil, Nat.reduceAdd, Nat.reduceSub, List.replicate_succ, List.replicate_zero, List.cons_append, List.nil_append]
  have er2 : ∀ p : Prop, ¬ p → (Formed s → p) → readP s = (0, 2) := fun p h1 h2 => by unfold readP; rw [if_pos (fun h => h1 (h2 h))]
  have q1 : (((s.size : Int) : Int) != 20) = false := by rw [bne_eq_false_iff_eq]; omega
  have p0 := ref4_p s (by omega)
  have p5 := ref2_p s 5 7 rfl (by omega)
  have p8 := ref2_p s 8 10 rfl (by omega)
  have p11 := ref2_p s 11 13 rfl (by omega)
  have p14 := ref2_p s 14 16 rfl (by omega)
  have p17 := ref2_p s 17 19 rfl (by omega)
  have hb4 : ((s.data.toList.getD 4 0).toNat : Int) = bt s 4 := rfl
  have hb7 : ((s.data.toList.getD 7 0).toNat : Int) = bt s 7 := rfl
  have hb10 : ((s.data.toList.getD 10 0).toNat : Int) = bt s 10 := rfl
  have hb13 : ((s.data.toList.getD 13 0).toNat : Int) = bt s 13 := rfl
  have hb16 : ((s.data.toList.getD 16 0).toNat : Int) = bt s 16 := rfl
  have hb19 : ((s.data.toList.getD 19 0).toNat : Int) = bt s 19 := rfl
  have m1 : decide ((-1 : Int) < 0) = true := by decide
  have er := er2 _ hn id
  rw [er]
  by_cases gD0 : ¬ (dg s 0 ∧ dg s 1 ∧ dg s 2 ∧ dg s 3)
  · rw [if_neg gD0] at p0
    repeat (first
      | (with_reducible refine lops_step fun K hK => ?_; simp (disch := first | omega | (simp only [go_sem, isRow, isFlat, Option.isSome_some]; done) | assumption | (simp only [ints_length, List.length_replicate, List.length_set, List.length_append, List.length_take, List.length_drop, List.length_cons, List.length_nil] <;> omega) | fail) only [go_sem, Nat.reduceAdd, Nat.reduceSub, reduceIte, Nat.reduceEqDiff, Int.reduceToNat, Int.reduceBEq, Int.reduceBNe, m1, q1, hb4, hb7, hb10, hb13, hb16, hb19]; (try (first | (refine And.intro (fun _ => ?_) (fun h => absurd h (by decide))) | (refine And.intro (fun h => absurd h (by decide)) (fun _ => ?_)))); (repeat (with_reducible refine And.intro (by first | omega | rfl | assumption | decide) ?_)); (first | (refine hK _ _ ?_) | (refine ⟨_, rfl, hK _ _ ?_⟩) | (refine Or.inl (hK _ _ ?_)) | (refine ⟨_, _, Or.inl (p0.go _), (by first | exact ⟨[], (List.append_nil _).symm⟩ | exact ⟨_, rfl⟩), hK _ _ ?_⟩) | (refine ⟨_, _, Or.inl (p0.go _), hK _ _ ?_⟩) | (refine ⟨_, _, Or.inl (p0.go _).weakQ, hK _ _ ?_⟩) | (refine ⟨_, _, Or.inl (p5.go _), (by first | exact ⟨[], (List.append_nil _).symm⟩ | exact ⟨_, rfl⟩), hK _ _ ?_⟩) | (refine ⟨_, _, Or.inl (p5.go _), hK _ _ ?_⟩) | (refine ⟨_, _, Or.inl (p5.go _).weakQ, hK _ _ ?_⟩) | (refine ⟨_, _, Or.inl (p8.go _), (by first | exact ⟨[], (List.append_nil _).symm⟩ | exact ⟨_, rfl⟩), hK _ _ ?_⟩) | (refine ⟨_, _, Or.inl (p8.go _), hK _ _ ?_⟩) | (refine ⟨_, _, Or.inl (p8.go _).weakQ, hK _ _ ?_⟩) | (refine ⟨_, _, Or.inl (p11.go _), (by first | exact ⟨[], (List.append_nil _).symm⟩ | exact ⟨_, rfl⟩), hK _ _ ?_⟩) | (refine ⟨_, _, Or.inl (p11.go _), hK _ _ ?_⟩) | (refine ⟨_, _, Or.inl (p11.go _).weakQ, hK _ _ ?_⟩) | (refine ⟨_, _, Or.inl (p14.go _), (by first | exact ⟨[], (List.append_nil _).symm⟩ | exact ⟨_, rfl⟩), hK _ _ ?_⟩) | (refine ⟨_, _, Or.inl (p14.go _), hK _ _ ?_⟩) | (refine ⟨_, _, Or.inl (p14.go _).weakQ, hK _ _ ?_⟩) | (refine ⟨_, _, Or.inl (p17.go _), (by first | exact ⟨[], (List.append_nil _).symm⟩ | exact ⟨_, rfl⟩), hK _ _ ?_⟩) | (refine ⟨_, _, Or.inl (p17.go _), hK _ _ ?_⟩) | (refine ⟨_, _, Or.inl (p17.go _).weakQ, hK _ _ ?_⟩)); clear hK K)
      | (with_reducible refine lops_nil ?_)
      | (with_reducible refine lavc_reg ?_)
      | (with_reducible refine lavc_seq ?_)
      | (with_reducible refine lavc_block ?_)
      | (with_reducible refine lavc_skip ?_)
      | (with_reducible refine lavc_exit ?_)
      | (with_reducible refine lavc_ret ?_)
      | (with_reducible refine lavcR_round ?_)
      | (refine lavc_cond rfl (fun _ => ?_) (fun hc => absurd hc (by decide)))
      | (refine lavc_cond rfl (fun hc => absurd hc (by decide)) (fun _ => ?_))
      | (simp only [↓reduceIte, Nat.reduceEqDiff, reduceCtorEq]))
    refine And.intro (by simp) ?_
    simp (disch := first | omega | (simp only [go_sem, isRow, isFlat, Option.isSome_some]; done) | assumption | (simp only [ints_length, List.length_replicate, List.length_set, List.length_append, List.length_take, List.length_drop, List.length_cons, List.length_nil] <;> omega) | fail) only [go_sem, Nat.reduceAdd, Nat.reduceSub, reduceIte, Nat.reduceEqDiff, Int.reduceToNat, Int.reduceBEq, Int.reduceBNe, aret, aretL, aret1, aenv]
    (repeat (with_reducible refine And.intro (by first | omega | rfl | assumption | decide) ?_))
    exact end0 (NR.t2 _ _) rfl
  replace gD0 := Decidable.not_not.1 gD0
  have vD0 := n4_in gD0
  rw [if_pos gD0] at p0
  have tD0 : decide (n4 s 0 < 0) = false := by rw [decide_eq_false_iff_not]; omega
  by_cases gD5 : ¬ (dg s 5 ∧ dg s 6)
  · rw [if_neg gD5] at p5
    repeat (first
      | (with_reducible refine lops_step fun K hK => ?_; simp (disch := first | omega | (simp only [go_sem, isRow, isFlat, Option.isSome_some]; done) | assumption | (simp only [ints_length, List.length_replicate, List.length_set, List.length_append, List.length_take, List.length_drop, List.length_cons, List.length_nil] <;> omega) | fail) only [go_sem, Nat.reduceAdd, Nat.reduceSub, reduceIte, Nat.reduceEqDiff, Int.reduceToNat, Int.reduceBEq, Int.reduceBNe, m1, q1, hb4, hb7, hb10, hb13, hb16, hb19, tD0]; (try (first | (refine And.intro (fun _ => ?_) (fun h => absurd h (by decide))) | (refine And.intro (fun h => absurd h (by decide)) (fun _ => ?_)))); (repeat (with_reducible refine And.intro (by first | omega | rfl | assumption | decide) ?_)); (first | (refine hK _ _ ?_) | (refine ⟨_, rfl, hK _ _ ?_⟩) | (refine Or.inl (hK _ _ ?_)) | (refine ⟨_, _, Or.inl (p0.go _), (by first | exact ⟨[], (List.append_nil _).symm⟩ | exact ⟨_, rfl⟩), hK _ _ ?_⟩) | (refine ⟨_, _, Or.inl (p0.go _), hK _ _ ?_⟩) | (refine ⟨_, _, Or.inl (p0.go _).weakQ, hK _ _ ?_⟩) | (refine ⟨_, _, Or.inl (p5.go _), (by first | exact ⟨[], (List.append_nil _).symm⟩ | exact ⟨_, rfl⟩), hK _ _ ?_⟩) | (refine ⟨_, _, Or.inl (p5.go _), hK _ _ ?_⟩) | (refine ⟨_, _, Or.inl (p5.go _).weakQ, hK _ _ ?_⟩) | (refine ⟨_, _, Or.inl (p8.go _), (by first | exact ⟨[], (List.append_nil _).symm⟩ | exact ⟨_, rfl⟩), hK _ _ ?_⟩) | (refine ⟨_, _, Or.inl (p8.go _), hK _ _ ?_⟩) | (refine ⟨_, _, Or.inl (p8.go _).weakQ, hK _ _ ?_⟩) | (refine ⟨_, _, Or.inl (p11.go _), (by first | exact ⟨[], (List.append_nil _).symm⟩ | exact ⟨_, rfl⟩), hK _ _ ?_⟩) | (refine ⟨_, _, Or.inl (p11.go _), hK _ _ ?_⟩) | (refine ⟨_, _, Or.inl (p11.go _).weakQ, hK _ _ ?_⟩) | (refine ⟨_, _, Or.inl (p14.go _), (by first | exact ⟨[], (List.append_nil _).symm⟩ | exact ⟨_, rfl⟩), hK _ _ ?_⟩) | (refine ⟨_, _, Or.inl (p14.go _), hK _ _ ?_⟩) | (refine ⟨_, _, Or.inl (p14.go _).weakQ, hK _ _ ?_⟩) | (refine ⟨_, _, Or.inl (p17.go _), (by first | exact ⟨[], (List.append_nil _).symm⟩ | exact ⟨_, rfl⟩), hK _ _ ?_⟩) | (refine ⟨_, _, Or.inl (p17.go _), hK _ _ ?_⟩) | (refine ⟨_, _, Or.inl (p17.go _).weakQ, hK _ _ ?_⟩)); clear hK K)
      | (with_reducible refine lops_nil ?_)
      | (with_reducible refine lavc_reg ?_)
      | (with_reducible refine lavc_seq ?_)
      | (with_reducible refine lavc_block ?_)
      | (with_reducible refine lavc_skip ?_)
      | (with_reducible refine lavc_exit ?_)
      | (with_reducible refine lavc_ret ?_)
      | (with_reducible refine lavcR_round ?_)
      | (refine lavc_cond rfl (fun _ => ?_) (fun hc => absurd hc (by decide)))
      | (refine lavc_cond rfl (fun hc => absurd hc (by decide)) (fun _ => ?_))
      | (simp only [↓reduceIte, Nat.reduceEqDiff, reduceCtorEq]))
    refine And.intro (by simp) ?_
    simp (disch := first | omega | (simp only [go_sem, isRow, isFlat, Option.isSome_some]; done) | assumption | (simp only [ints_length, List.length_replicate, List.length_set, List.length_append, List.length_take, List.length_drop, List.length_cons, List.length_nil] <;> omega) | fail) only [go_sem, Nat.reduceAdd, Nat.reduceSub, reduceIte, Nat.reduceEqDiff, Int.reduceToNat, Int.reduceBEq, Int.reduceBNe, aret, aretL, aret1, aenv]
    (repeat (with_reducible refine And.intro (by first | omega | rfl | assumption | decide) ?_))
    exact end0 (NR.t2 _ _) rfl
  replace gD5 := Decidable.not_not.1 gD5
  have vD5 := n2_in gD5
  rw [if_pos gD5] at p5
  have tD5 : decide (n2 s 5 < 0) = false := by rw [decide_eq_false_iff_not]; omega
  by_cases gD8 : ¬ (dg s 8 ∧ dg s 9)
  · rw [if_neg gD8] at p8
    repeat (first
      | (with_reducible refine lops_step fun K hK => ?_; simp (disch := first | omega | (simp only [go_sem, isRow, isFlat, Option.isSome_some]; done) | assumption | (simp only [ints_length, List.length_replicate, List.length_set, List.length_append, List.length_take, List.length_drop, List.length_cons, List.length_nil] <;> omega) | fail) only [go_sem, Nat.reduceAdd, Nat.reduceSub, reduceIte, Nat.reduceEqDiff, Int.reduceToNat, Int.reduceBEq, Int.reduceBNe, m1, q1, hb4, hb7, hb10, hb13, hb16, hb19, tD0, tD5]; (try (first | (refine And.intro (fun _ => ?_) (fun h => absurd h (by decide))) | (refine And.intro (fun h => absurd h (by decide)) (fun _ => ?_)))); (repeat (with_reducible refine And.intro (by first | omega | rfl | assumption | decide) ?_)); (first | (refine hK _ _ ?_) | (refine ⟨_, rfl, hK _ _ ?_⟩) | (refine Or.inl (hK _ _ ?_)) | (refine ⟨_, _, Or.inl (p0.go _), (by first | exact ⟨[], (List.append_nil _).symm⟩ | exact ⟨_, rfl⟩), hK _ _ ?_⟩) | (refine ⟨_, _, Or.inl (p0.go _), hK _ _ ?_⟩) | (refine ⟨_, _, Or.inl (p0.go _).weakQ, hK _ _ ?_⟩) | (refine ⟨_, _, Or.inl (p5.go _), (by first | exact ⟨[], (List.append_nil _).symm⟩ | exact ⟨_, rfl⟩), hK _ _ ?_⟩) | (refine ⟨_, _, Or.inl (p5.go _), hK _ _ ?_⟩) | (refine ⟨_, _, Or.inl (p5.go _).weakQ, hK _ _ ?_⟩) | (refine ⟨_, _, Or.inl (p8.go _), (by first | exact ⟨[], (List.append_nil _).symm⟩ | exact ⟨_, rfl⟩), hK _ _ ?_⟩) | (refine ⟨_, _, Or.inl (p8.go _), hK _ _ ?_⟩) | (refine ⟨_, _, Or.inl (p8.go _).weakQ, hK _ _ ?_⟩) | (refine ⟨_, _, Or.inl (p11.go _), (by first | exact ⟨[], (List.append_nil _).symm⟩ | exact ⟨_, rfl⟩), hK _ _ ?_⟩) | (refine ⟨_, _, Or.inl (p11.go _), hK _ _ ?_⟩) | (refine ⟨_, _, Or.inl (p11.go _).weakQ, hK _ _ ?_⟩) | (refine ⟨_, _, Or.inl (p14.go _), (by first | exact ⟨[], (List.append_nil _).symm⟩ | exact ⟨_, rfl⟩), hK _ _ ?_⟩) | (refine ⟨_, _, Or.inl (p14.go _), hK _ _ ?_⟩) | (refine ⟨_, _, Or.inl (p14.go _).weakQ, hK _ _ ?_⟩) | (refine ⟨_, _, Or.inl (p17.go _), (by first | exact ⟨[], (List.append_nil _).symm⟩ | exact ⟨_, rfl⟩), hK _ _ ?_⟩) | (refine ⟨_, _, Or.inl (p17.go _), hK _ _ ?_⟩) | (refine ⟨_, _, Or.inl (p17.go _).weakQ, hK _ _ ?_⟩)); clear hK K)
      | (with_reducible refine lops_nil ?_)
      | (with_reducible refine lavc_reg ?_)
      | (with_reducible refine lavc_seq ?_)
      | (with_reducible refine lavc_block ?_)
      | (with_reducible refine lavc_skip ?_)
      | (with_reducible refine lavc_exit ?_)
      | (with_reducible refine lavc_ret ?_)
      | (with_reducible refine lavcR_round ?_)
      | (refine lavc_cond rfl (fun _ => ?_) (fun hc => absurd hc (by decide)))
      | (refine lavc_cond rfl (fun hc => absurd hc (by decide)) (fun _ => ?_))
      | (simp only [↓reduceIte, Nat.reduceEqDiff, reduceCtorEq]))
    refine And.intro (by simp) ?_
    simp (disch := first | omega | (simp only [go_sem, isRow, isFlat, Option.isSome_some]; done) | assumption | (simp only [ints_length, List.length_replicate, List.length_set, List.length_append, List.length_take, List.length_drop, List.length_cons, List.length_nil] <;> omega) | fail) only [go_sem, Nat.reduceAdd, Nat.reduceSub, reduceIte, Nat.reduceEqDiff, Int.reduceToNat, Int.reduceBEq, Int.reduceBNe, aret, aretL, aret1, aenv]
    (repeat (with_reducible refine And.intro (by first | omega | rfl | assumption | decide) ?_))
    exact end0 (NR.t2 _ _) rfl
  replace gD8 := Decidable.not_not.1 gD8
  have vD8 := n2_in gD8
  rw [if_pos gD8] at p8
  have tD8 : decide (n2 s 8 < 0) = false := by rw [decide_eq_false_iff_not]; omega
  by_cases gD11 : ¬ (dg s 11 ∧ dg s 12)
  · rw [if_neg gD11] at p11
    repeat (first
      | (with_reducible refine lops_step fun K hK => ?_; simp (disch := first | omega | (simp only [go_sem, isRow, isFlat, Option.isSome_some]; done) | assumption | (simp only [ints_length, List.length_replicate, List.length_set, List.length_append, List.length_take, List.length_drop, List.length_cons, List.length_nil] <;> omega) | fail) only [go_sem, Nat.reduceAdd, Nat.reduceSub, reduceIte, Nat.reduceEqDiff, Int.reduceToNat, Int.reduceBEq, Int.reduceBNe, m1, q1, hb4, hb7, hb10, hb13, hb16, hb19, tD0, tD5, tD8]; (try (first | (refine And.intro (fun _ => ?_) (fun h => absurd h (by decide))) | (refine And.intro (fun h => absurd h (by decide)) (fun _ => ?_)))); (repeat (with_reducible refine And.intro (by first | omega | rfl | assumption | decide) ?_)); (first | (refine hK _ _ ?_) | (refine ⟨_, rfl, hK _ _ ?_⟩) | (refine Or.inl (hK _ _ ?_)) | (refine ⟨_, _, Or.inl (p0.go _), (by first | exact ⟨[], (List.append_nil _).symm⟩ | exact ⟨_, rfl⟩), hK _ _ ?_⟩) | (refine ⟨_, _, Or.inl (p0.go _), hK _ _ ?_⟩) | (refine ⟨_, _, Or.inl (p0.go _).weakQ, hK _ _ ?_⟩) | (refine ⟨_, _, Or.inl (p5.go _), (by first | exact ⟨[], (List.append_nil _).symm⟩ | exact ⟨_, rfl⟩), hK _ _ ?_⟩) | (refine ⟨_, _, Or.inl (p5.go _), hK _ _ ?_⟩) | (refine ⟨_, _, Or.inl (p5.go _).weakQ, hK _ _ ?_⟩) | (refine ⟨_, _, Or.inl (p8.go _), (by first | exact ⟨[], (List.append_nil _).symm⟩ | exact ⟨_, rfl⟩), hK _ _ ?_⟩) | (refine ⟨_, _, Or.inl (p8.go _), hK _ _ ?_⟩) | (refine ⟨_, _, Or.inl (p8.go _).weakQ, hK _ _ ?_⟩) | (refine ⟨_, _, Or.inl (p11.go _), (by first | exact ⟨[], (List.append_nil _).symm⟩ | exact ⟨_, rfl⟩), hK _ _ ?_⟩) | (refine ⟨_, _, Or.inl (p11.go _), hK _ _ ?_⟩) | (refine ⟨_, _, Or.inl (p11.go _).weakQ, hK _ _ ?_⟩) | (refine ⟨_, _, Or.inl (p14.go _), (by first | exact ⟨[], (List.append_nil _).symm⟩ | exact ⟨_, rfl⟩), hK _ _ ?_⟩) | (refine ⟨_, _, Or.inl (p14.go _), hK _ _ ?_⟩) | (refine ⟨_, _, Or.inl (p14.go _).weakQ, hK _ _ ?_⟩) | (refine ⟨_, _, Or.inl (p17.go _), (by first | exact ⟨[], (List.append_nil _).symm⟩ | exact ⟨_, rfl⟩), hK _ _ ?_⟩) | (refine ⟨_, _, Or.inl (p17.go _), hK _ _ ?_⟩) | (refine ⟨_, _, Or.inl (p17.go _).weakQ, hK _ _ ?_⟩)); clear hK K)
      | (with_reducible refine lops_nil ?_)
      | (with_reducible refine lavc_reg ?_)
      | (with_reducible refine lavc_seq ?_)
      | (with_reducible refine lavc_block ?_)
      | (with_reducible refine lavc_skip ?_)
      | (with_reducible refine lavc_exit ?_)
      | (with_reducible refine lavc_ret ?_)
      | (with_reducible refine lavcR_round ?_)
      | (refine lavc_cond rfl (fun _ => ?_) (fun hc => absurd hc (by decide)))
      | (refine lavc_cond rfl (fun hc => absurd hc (by decide)) (fun _ => ?_))
      | (simp only [↓reduceIte, Nat.reduceEqDiff, reduceCtorEq]))
    refine And.intro (by simp) ?_
    simp (disch := first | omega | (simp only [go_sem, isRow, isFlat, Option.isSome_some]; done) | assumption | (simp only [ints_length, List.length_replicate, List.length_set, List.length_append, List.length_take, List.length_drop, List.length_cons, List.length_nil] <;> omega) | fail) only [go_sem, Nat.reduceAdd, Nat.reduceSub, reduceIte, Nat.reduceEqDiff, Int.reduceToNat, Int.reduceBEq, Int.reduceBNe, aret, aretL, aret1, aenv]
    (repeat (with_reducible refine And.intro (by first | omega | rfl | assumption | decide) ?_))
    exact end0 (NR.t2 _ _) rfl
  replace gD11 := Decidable.not_not.1 gD11
  have vD11 := n2_in gD11
  rw [if_pos gD11] at p11
  have tD11 : decide (n2 s 11 < 0) = false := by rw [decide_eq_false_iff_not]; omega
  by_cases gD14 : ¬ (dg s 14 ∧ dg s 15)
  · rw [if_neg gD14] at p14
    repeat (first
      | (with_reducible refine lops_step fun K hK => ?_; simp (disch := first | omega | (simp only [go_sem, isRow, isFlat, Option.isSome_some]; done) | assumption | (simp only [ints_length, List.length_replicate, List.length_set, List.length_append, List.length_take, List.length_drop, List.length_cons, List.length_nil] <;> omega) | fail) only [go_sem, Nat.reduceAdd, Nat.reduceSub, reduceIte, Nat.reduceEqDiff, Int.reduceToNat, Int.reduceBEq, Int.reduceBNe, m1, q1, hb4, hb7, hb10, hb13, hb16, hb19, tD0, tD5, tD8, tD11]; (try (first | (refine And.intro (fun _ => ?_) (fun h => absurd h (by decide))) | (refine And.intro (fun h => absurd h (by decide)) (fun _ => ?_)))); (repeat (with_reducible refine And.intro (by first | omega | rfl | assumption | decide) ?_)); (first | (refine hK _ _ ?_) | (refine ⟨_, rfl, hK _ _ ?_⟩) | (refine Or.inl (hK _ _ ?_)) | (refine ⟨_, _, Or.inl (p0.go _), (by first | exact ⟨[], (List.append_nil _).symm⟩ | exact ⟨_, rfl⟩), hK _ _ ?_⟩) | (refine ⟨_, _, Or.inl (p0.go _), hK _ _ ?_⟩) | (refine ⟨_, _, Or.inl (p0.go _).weakQ, hK _ _ ?_⟩) | (refine ⟨_, _, Or.inl (p5.go _), (by first | exact ⟨[], (List.append_nil _).symm⟩ | exact ⟨_, rfl⟩), hK _ _ ?_⟩) | (refine ⟨_, _, Or.inl (p5.go _), hK _ _ ?_⟩) | (refine ⟨_, _, Or.inl (p5.go _).weakQ, hK _ _ ?_⟩) | (refine ⟨_, _, Or.inl (p8.go _), (by first | exact ⟨[], (List.append_nil _).symm⟩ | exact ⟨_, rfl⟩), hK _ _ ?_⟩) | (refine ⟨_, _, Or.inl (p8.go _), hK _ _ ?_⟩) | (refine ⟨_, _, Or.inl (p8.go _).weakQ, hK _ _ ?_⟩) | (refine ⟨_, _, Or.inl (p11.go _), (by first | exact ⟨[], (List.append_nil _).symm⟩ | exact ⟨_, rfl⟩), hK _ _ ?_⟩) | (refine ⟨_, _, Or.inl (p11.go _), hK _ _ ?_⟩) | (refine ⟨_, _, Or.inl (p11.go _).weakQ, hK _ _ ?_⟩) | (refine ⟨_, _, Or.inl (p14.go _), (by first | exact ⟨[], (List.append_nil _).symm⟩ | exact ⟨_, rfl⟩), hK _ _ ?_⟩) | (refine ⟨_, _, Or.inl (p14.go _), hK _ _ ?_⟩) | (refine ⟨_, _, Or.inl (p14.go _).weakQ, hK _ _ ?_⟩) | (refine ⟨_, _, Or.inl (p17.go _), (by first | exact ⟨[], (List.append_nil _).symm⟩ | exact ⟨_, rfl⟩), hK _ _ ?_⟩) | (refine ⟨_, _, Or.inl (p17.go _), hK _ _ ?_⟩) | (refine ⟨_, _, Or.inl (p17.go _).weakQ, hK _ _ ?_⟩)); clear hK K)
      | (with_reducible refine lops_nil ?_)
      | (with_reducible refine lavc_reg ?_)
      | (with_reducible refine lavc_seq ?_)
      | (with_reducible refine lavc_block ?_)
      | (with_reducible refine lavc_skip ?_)
      | (with_reducible refine lavc_exit ?_)
      | (with_reducible refine lavc_ret ?_)
      | (with_reducible refine lavcR_round ?_)
      | (refine lavc_cond rfl (fun _ => ?_) (fun hc => absurd hc (by decide)))
      | (refine lavc_cond rfl (fun hc => absurd hc (by decide)) (fun _ => ?_))
      | (simp only [↓reduceIte, Nat.reduceEqDiff, reduceCtorEq]))
    refine And.intro (by simp) ?_
    simp (disch := first | omega | (simp only [go_sem, isRow, isFlat, Option.isSome_some]; done) | assumption | (simp only [ints_length, List.length_replicate, List.length_set, List.length_append, List.length_take, List.length_drop, List.length_cons, List.length_nil] <;> omega) | fail) only [go_sem, Nat.reduceAdd, Nat.reduceSub, reduceIte, Nat.reduceEqDiff, Int.reduceToNat, Int.reduceBEq, Int.reduceBNe, aret, aretL, aret1, aenv]
    (repeat (with_reducible refine And.intro (by first | omega | rfl | assumption | decide) ?_))
    exact end0 (NR.t2 _ _) rfl
  replace gD14 := Decidable.not_not.1 gD14
  have vD14 := n2_in gD14
  rw [if_pos gD14] at p14
  have tD14 : decide (n2 s 14 < 0) = false := by rw [decide_eq_false_iff_not]; omega
  by_cases gD17 : ¬ (dg s 17 ∧ dg s 18)
  · rw [if_neg gD17] at p17
    repeat (first
      | (with_reducible refine lops_step fun K hK => ?_; simp (disch := first | omega | (simp only [go_sem, isRow, isFlat, Option.isSome_some]; done) | assumption | (simp only [ints_length, List.length_replicate, List.length_set, List.length_append, List.length_take, List.length_drop, List.length_cons, List.length_nil] <;> omega) | fail) only [go_sem, Nat.reduceAdd, Nat.reduceSub, reduceIte, Nat.reduceEqDiff, Int.reduceToNat, Int.reduceBEq, Int.reduceBNe, m1, q1, hb4, hb7, hb10, hb13, hb16, hb19, tD0, tD5, tD8, tD11, tD14]; (try (first | (refine And.intro (fun _ => ?_) (fun h => absurd h (by decide))) | (refine And.intro (fun h => absurd h (by decide)) (fun _ => ?_)))); (repeat (with_reducible refine And.intro (by first | omega | rfl | assumption | decide) ?_)); (first | (refine hK _ _ ?_) | (refine ⟨_, rfl, hK _ _ ?_⟩) | (refine Or.inl (hK _ _ ?_)) | (refine ⟨_, _, Or.inl (p0.go _), (by first | exact ⟨[], (List.append_nil _).symm⟩ | exact ⟨_, rfl⟩), hK _ _ ?_⟩) | (refine ⟨_, _, Or.inl (p0.go _), hK _ _ ?_⟩) | (refine ⟨_, _, Or.inl (p0.go _).weakQ, hK _ _ ?_⟩) | (refine ⟨_, _, Or.inl (p5.go _), (by first | exact ⟨[], (List.append_nil _).symm⟩ | exact ⟨_, rfl⟩), hK _ _ ?_⟩) | (refine ⟨_, _, Or.inl (p5.go _), hK _ _ ?_⟩) | (refine ⟨_, _, Or.inl (p5.go _).weakQ, hK _ _ ?_⟩) | (refine ⟨_, _, Or.inl (p8.go _), (by first | exact ⟨[], (List.append_nil _).symm⟩ | exact ⟨_, rfl⟩), hK _ _ ?_⟩) | (refine ⟨_, _, Or.inl (p8.go _), hK _ _ ?_⟩) | (refine ⟨_, _, Or.inl (p8.go _).weakQ, hK _ _ ?_⟩) | (refine ⟨_, _, Or.inl (p11.go _), (by first | exact ⟨[], (List.append_nil _).symm⟩ | exact ⟨_, rfl⟩), hK _ _ ?_⟩) | (refine ⟨_, _, Or.inl (p11.go _), hK _ _ ?_⟩) | (refine ⟨_, _, Or.inl (p11.go _).weakQ, hK _ _ ?_⟩) | (refine ⟨_, _, Or.inl (p14.go _), (by first | exact ⟨[], (List.append_nil _).symm⟩ | exact ⟨_, rfl⟩), hK _ _ ?_⟩) | (refine ⟨_, _, Or.inl (p14.go _), hK _ _ ?_⟩) | (refine ⟨_, _, Or.inl (p14.go _).weakQ, hK _ _ ?_⟩) | (refine ⟨_, _, Or.inl (p17.go _), (by first | exact ⟨[], (List.append_nil _).symm⟩ | exact ⟨_, rfl⟩), hK _ _ ?_⟩) | (refine ⟨_, _, Or.inl (p17.go _), hK _ _ ?_⟩) | (refine ⟨_, _, Or.inl (p17.go _).weakQ, hK _ _ ?_⟩)); clear hK K)
      | (with_reducible refine lops_nil ?_)
      | (with_reducible refine lavc_reg ?_)
      | (with_reducible refine lavc_seq ?_)
      | (with_reducible refine lavc_block ?_)
      | (with_reducible refine lavc_skip ?_)
      | (with_reducible refine lavc_exit ?_)
      | (with_reducible refine lavc_ret ?_)
      | (with_reducible refine lavcR_round ?_)
      | (refine lavc_cond rfl (fun _ => ?_) (fun hc => absurd hc (by decide)))
      | (refine lavc_cond rfl (fun hc => absurd hc (by decide)) (fun _ => ?_))
      | (simp only [↓reduceIte, Nat.reduceEqDiff, reduceCtorEq]))
    refine And.intro (by simp) ?_
    simp (disch := first | omega | (simp only [go_sem, isRow, isFlat, Option.isSome_some]; done) | assumption | (simp only [ints_length, List.length_replicate, List.length_set, List.length_append, List.length_take, List.length_drop, List.length_cons, List.length_nil] <;> omega) | fail) only [go_sem, Nat.reduceAdd, Nat.reduceSub, reduceIte, Nat.reduceEqDiff, Int.reduceToNat, Int.reduceBEq, Int.reduceBNe, aret, aretL, aret1, aenv]
    (repeat (with_reducible refine And.intro (by first | omega | rfl | assumption | decide) ?_))
    exact end0 (NR.t2 _ _) rfl
  replace gD17 := Decidable.not_not.1 gD17
  have vD17 := n2_in gD17
  rw [if_pos gD17] at p17
  have tD17 : decide (n2 s 17 < 0) = false := by rw [decide_eq_false_iff_not]; omega
  by_cases gs4 : ¬ (bt s 4 = 45)
  · have ts4 : ((bt s 4 : Int) != 45) = true := by rw [bne_iff_ne, ne_eq]; omega
    repeat (first
      | (with_reducible refine lops_step fun K hK => ?_; simp (disch := first | omega | (simp only [go_sem, isRow, isFlat, Option.isSome_some]; done) | assumption | (simp only [ints_length, List.length_replicate, List.length_set, List.length_append, List.length_take, List.length_drop, List.length_cons, List.length_nil] <;> omega) | fail) only [go_sem, Nat.reduceAdd, Nat.reduceSub, reduceIte, Nat.reduceEqDiff, Int.reduceToNat, Int.reduceBEq, Int.reduceBNe, ts4, q1, hb4, hb7, hb10, hb13, hb16, hb19, tD0, tD5, tD8, tD11, tD14, tD17]; (try (first | (refine And.intro (fun _ => ?_) (fun h => absurd h (by decide))) | (refine And.intro (fun h => absurd h (by decide)) (fun _ => ?_)))); (repeat (with_reducible refine And.intro (by first | omega | rfl | assumption | decide) ?_)); (first | (refine hK _ _ ?_) | (refine ⟨_, rfl, hK _ _ ?_⟩) | (refine Or.inl (hK _ _ ?_)) | (refine ⟨_, _, Or.inl (p0.go _), (by first | exact ⟨[], (List.append_nil _).symm⟩ | exact ⟨_, rfl⟩), hK _ _ ?_⟩) | (refine ⟨_, _, Or.inl (p0.go _), hK _ _ ?_⟩) | (refine ⟨_, _, Or.inl (p0.go _).weakQ, hK _ _ ?_⟩) | (refine ⟨_, _, Or.inl (p5.go _), (by first | exact ⟨[], (List.append_nil _).symm⟩ | exact ⟨_, rfl⟩), hK _ _ ?_⟩) | (refine ⟨_, _, Or.inl (p5.go _), hK _ _ ?_⟩) | (refine ⟨_, _, Or.inl (p5.go _).weakQ, hK _ _ ?_⟩) | (refine ⟨_, _, Or.inl (p8.go _), (by first | exact ⟨[], (List.append_nil _).symm⟩ | exact ⟨_, rfl⟩), hK _ _ ?_⟩) | (refine ⟨_, _, Or.inl (p8.go _), hK _ _ ?_⟩) | (refine ⟨_, _, Or.inl (p8.go _).weakQ, hK _ _ ?_⟩) | (refine ⟨_, _, Or.inl (p11.go _), (by first | exact ⟨[], (List.append_nil _).symm⟩ | exact ⟨_, rfl⟩), hK _ _ ?_⟩) | (refine ⟨_, _, Or.inl (p11.go _), hK _ _ ?_⟩) | (refine ⟨_, _, Or.inl (p11.go _).weakQ, hK _ _ ?_⟩) | (refine ⟨_, _, Or.inl (p14.go _), (by first | exact ⟨[], (List.append_nil _).symm⟩ | exact ⟨_, rfl⟩), hK _ _ ?_⟩) | (refine ⟨_, _, Or.inl (p14.go _), hK _ _ ?_⟩) | (refine ⟨_, _, Or.inl (p14.go _).weakQ, hK _ _ ?_⟩) | (refine ⟨_, _, Or.inl (p17.go _), (by first | exact ⟨[], (List.append_nil _).symm⟩ | exact ⟨_, rfl⟩), hK _ _ ?_⟩) | (refine ⟨_, _, Or.inl (p17.go _), hK _ _ ?_⟩) | (refine ⟨_, _, Or.inl (p17.go _).weakQ, hK _ _ ?_⟩)); clear hK K)
      | (with_reducible refine lops_nil ?_)
      | (with_reducible refine lavc_reg ?_)
      | (with_reducible refine lavc_seq ?_)
      | (with_reducible refine lavc_block ?_)
      | (with_reducible refine lavc_skip ?_)
      | (with_reducible refine lavc_exit ?_)
      | (with_reducible refine lavc_ret ?_)
      | (with_reducible refine lavcR_round ?_)
      | (refine lavc_cond rfl (fun _ => ?_) (fun hc => absurd hc (by decide)))
      | (refine lavc_cond rfl (fun hc => absurd hc (by decide)) (fun _ => ?_))
      | (simp only [↓reduceIte, Nat.reduceEqDiff, reduceCtorEq]))
    refine And.intro (by simp) ?_
    simp (disch := first | omega | (simp only [go_sem, isRow, isFlat, Option.isSome_some]; done) | assumption | (simp only [ints_length, List.length_replicate, List.length_set, List.length_append, List.length_take, List.length_drop, List.length_cons, List.length_nil] <;> omega) | fail) only [go_sem, Nat.reduceAdd, Nat.reduceSub, reduceIte, Nat.reduceEqDiff, Int.reduceToNat, Int.reduceBEq, Int.reduceBNe, aret, aretL, aret1, aenv]
    (repeat (with_reducible refine And.intro (by first | omega | rfl | assumption | decide) ?_))
    exact end0 (NR.t2 _ _) rfl
  replace gs4 := Decidable.not_not.1 gs4
  have ts4 : ((bt s 4 : Int) != 45) = false := by rw [bne_eq_false_iff_eq]; omega
  by_cases gs7 : ¬ (bt s 7 = 45)
  · have ts7 : ((bt s 7 : Int) != 45) = true := by rw [bne_iff_ne, ne_eq]; omega
    repeat (first
      | (with_reducible refine lops_step fun K hK => ?_; simp (disch := first | omega | (simp only [go_sem, isRow, isFlat, Option.isSome_some]; done) | assumption | (simp only [ints_length, List.length_replicate, List.length_set, List.length_append, List.length_take, List.length_drop, List.length_cons, List.length_nil] <;> omega) | fail) only [go_sem, Nat.reduceAdd, Nat.reduceSub, reduceIte, Nat.reduceEqDiff, Int.reduceToNat, Int.reduceBEq, Int.reduceBNe, ts7, q1, hb4, hb7, hb10, hb13, hb16, hb19, tD0, tD5, tD8, tD11, tD14, tD17, ts4]; (try (first | (refine And.intro (fun _ => ?_) (fun h => absurd h (by decide))) | (refine And.intro (fun h => absurd h (by decide)) (fun _ => ?_)))); (repeat (with_reducible refine And.intro (by first | omega | rfl | assumption | decide) ?_)); (first | (refine hK _ _ ?_) | (refine ⟨_, rfl, hK _ _ ?_⟩) | (refine Or.inl (hK _ _ ?_)) | (refine ⟨_, _, Or.inl (p0.go _), (by first | exact ⟨[], (List.append_nil _).symm⟩ | exact ⟨_, rfl⟩), hK _ _ ?_⟩) | (refine ⟨_, _, Or.inl (p0.go _), hK _ _ ?_⟩) | (refine ⟨_, _, Or.inl (p0.go _).weakQ, hK _ _ ?_⟩) | (refine ⟨_, _, Or.inl (p5.go _), (by first | exact ⟨[], (List.append_nil _).symm⟩ | exact ⟨_, rfl⟩), hK _ _ ?_⟩) | (refine ⟨_, _, Or.inl (p5.go _), hK _ _ ?_⟩) | (refine ⟨_, _, Or.inl (p5.go _).weakQ, hK _ _ ?_⟩) | (refine ⟨_, _, Or.inl (p8.go _), (by first | exact ⟨[], (List.append_nil _).symm⟩ | exact ⟨_, rfl⟩), hK _ _ ?_⟩) | (refine ⟨_, _, Or.inl (p8.go _), hK _ _ ?_⟩) | (refine ⟨_, _, Or.inl (p8.go _).weakQ, hK _ _ ?_⟩) | (refine ⟨_, _, Or.inl (p11.go _), (by first | exact ⟨[], (List.append_nil _).symm⟩ | exact ⟨_, rfl⟩), hK _ _ ?_⟩) | (refine ⟨_, _, Or.inl (p11.go _), hK _ _ ?_⟩) | (refine ⟨_, _, Or.inl (p11.go _).weakQ, hK _ _ ?_⟩) | (refine ⟨_, _, Or.inl (p14.go _), (by first | exact ⟨[], (List.append_nil _).symm⟩ | exact ⟨_, rfl⟩), hK _ _ ?_⟩) | (refine ⟨_, _, Or.inl (p14.go _), hK _ _ ?_⟩) | (refine ⟨_, _, Or.inl (p14.go _).weakQ, hK _ _ ?_⟩) | (refine ⟨_, _, Or.inl (p17.go _), (by first | exact ⟨[], (List.append_nil _).symm⟩ | exact ⟨_, rfl⟩), hK _ _ ?_⟩) | (refine ⟨_, _, Or.inl (p17.go _), hK _ _ ?_⟩) | (refine ⟨_, _, Or.inl (p17.go _).weakQ, hK _ _ ?_⟩)); clear hK K)
      | (with_reducible refine lops_nil ?_)
      | (with_reducible refine lavc_reg ?_)
      | (with_reducible refine lavc_seq ?_)
      | (with_reducible refine lavc_block ?_)
      | (with_reducible refine lavc_skip ?_)
      | (with_reducible refine lavc_exit ?_)
      | (with_reducible refine lavc_ret ?_)
      | (with_reducible refine lavcR_round ?_)
      | (refine lavc_cond rfl (fun _ => ?_) (fun hc => absurd hc (by decide)))
      | (refine lavc_cond rfl (fun hc => absurd hc (by decide)) (fun _ => ?_))
      | (simp only [↓reduceIte, Nat.reduceEqDiff, reduceCtorEq]))
    refine And.intro (by simp) ?_
    simp (disch := first | omega | (simp only [go_sem, isRow, isFlat, Option.isSome_some]; done) | assumption | (simp only [ints_length, List.length_replicate, List.length_set, List.length_append, List.length_take, List.length_drop, List.length_cons, List.length_nil] <;> omega) | fail) only [go_sem, Nat.reduceAdd, Nat.reduceSub, reduceIte, Nat.reduceEqDiff, Int.reduceToNat, Int.reduceBEq, Int.reduceBNe, aret, aretL, aret1, aenv]
    (repeat (with_reducible refine And.intro (by first | omega | rfl | assumption | decide) ?_))
    exact end0 (NR.t2 _ _) rfl
  replace gs7 := Decidable.not_not.1 gs7
  have ts7 : ((bt s 7 : Int) != 45) = false := by rw [bne_eq_false_iff_eq]; omega
  by_cases gs10 : ¬ (bt s 10 = 84)
  · have ts10 : ((bt s 10 : Int) != 84) = true := by rw [bne_iff_ne, ne_eq]; omega
    repeat (first
      | (with_reducible refine lops_step fun K hK => ?_; simp (disch := first | omega | (simp only [go_sem, isRow, isFlat, Option.isSome_some]; done) | assumption | (simp only [ints_length, List.length_replicate, List.length_set, List.length_append, List.length_take, List.length_drop, List.length_cons, List.length_nil] <;> omega) | fail) only [go_sem, Nat.reduceAdd, Nat.reduceSub, reduceIte, Nat.reduceEqDiff, Int.reduceToNat, Int.reduceBEq, Int.reduceBNe, ts10, q1, hb4, hb7, hb10, hb13, hb16, hb19, tD0, tD5, tD8, tD11, tD14, tD17, ts4, ts7]; (try (first | (refine And.intro (fun _ => ?_) (fun h => absurd h (by decide))) | (refine And.intro (fun h => absurd h (by decide)) (fun _ => ?_)))); (repeat (with_reducible refine And.intro (by first | omega | rfl | assumption | decide) ?_)); (first | (refine hK _ _ ?_) | (refine ⟨_, rfl, hK _ _ ?_⟩) | (refine Or.inl (hK _ _ ?_)) | (refine ⟨_, _, Or.inl (p0.go _), (by first | exact ⟨[], (List.append_nil _).symm⟩ | exact ⟨_, rfl⟩), hK _ _ ?_⟩) | (refine ⟨_, _, Or.inl (p0.go _), hK _ _ ?_⟩) | (refine ⟨_, _, Or.inl (p0.go _).weakQ, hK _ _ ?_⟩) | (refine ⟨_, _, Or.inl (p5.go _), (by first | exact ⟨[], (List.append_nil _).symm⟩ | exact ⟨_, rfl⟩), hK _ _ ?_⟩) | (refine ⟨_, _, Or.inl (p5.go _), hK _ _ ?_⟩) | (refine ⟨_, _, Or.inl (p5.go _).weakQ, hK _ _ ?_⟩) | (refine ⟨_, _, Or.inl (p8.go _), (by first | exact ⟨[], (List.append_nil _).symm⟩ | exact ⟨_, rfl⟩), hK _ _ ?_⟩) | (refine ⟨_, _, Or.inl (p8.go _), hK _ _ ?_⟩) | (refine ⟨_, _, Or.inl (p8.go _).weakQ, hK _ _ ?_⟩) | (refine ⟨_, _, Or.inl (p11.go _), (by first | exact ⟨[], (List.append_nil _).symm⟩ | exact ⟨_, rfl⟩), hK _ _ ?_⟩) | (refine ⟨_, _, Or.inl (p11.go _), hK _ _ ?_⟩) | (refine ⟨_, _, Or.inl (p11.go _).weakQ, hK _ _ ?_⟩) | (refine ⟨_, _, Or.inl (p14.go _), (by first | exact ⟨[], (List.append_nil _).symm⟩ | exact ⟨_, rfl⟩), hK _ _ ?_⟩) | (refine ⟨_, _, Or.inl (p14.go _), hK _ _ ?_⟩) | (refine ⟨_, _, Or.inl (p14.go _).weakQ, hK _ _ ?_⟩) | (refine ⟨_, _, Or.inl (p17.go _), (by first | exact ⟨[], (List.append_nil _).symm⟩ | exact ⟨_, rfl⟩), hK _ _ ?_⟩) | (refine ⟨_, _, Or.inl (p17.go _), hK _ _ ?_⟩) | (refine ⟨_, _, Or.inl (p17.go _).weakQ, hK _ _ ?_⟩)); clear hK K)
      | (with_reducible refine lops_nil ?_)
      | (with_reducible refine lavc_reg ?_)
      | (with_reducible refine lavc_seq ?_)
      | (with_reducible refine lavc_block ?_)
      | (with_reducible refine lavc_skip ?_)
      | (with_reducible refine lavc_exit ?_)
      | (with_reducible refine lavc_ret ?_)
      | (with_reducible refine lavcR_round ?_)
      | (refine lavc_cond rfl (fun _ => ?_) (fun hc => absurd hc (by decide)))
      | (refine lavc_cond rfl (fun hc => absurd hc (by decide)) (fun _ => ?_))
      | (simp only [↓reduceIte, Nat.reduceEqDiff, reduceCtorEq]))
    refine And.intro (by simp) ?_
    simp (disch := first | omega | (simp only [go_sem, isRow, isFlat, Option.isSome_some]; done) | assumption | (simp only [ints_length, List.length_replicate, List.length_set, List.length_append, List.length_take, List.length_drop, List.length_cons, List.length_nil] <;> omega) | fail) only [go_sem, Nat.reduceAdd, Nat.reduceSub, reduceIte, Nat.reduceEqDiff, Int.reduceToNat, Int.reduceBEq, Int.reduceBNe, aret, aretL, aret1, aenv]
    (repeat (with_reducible refine And.intro (by first | omega | rfl | assumption | decide) ?_))
    exact end0 (NR.t2 _ _) rfl
  replace gs10 := Decidable.not_not.1 gs10
  have ts10 : ((bt s 10 : Int) != 84) = false := by rw [bne_eq_false_iff_eq]; omega
  by_cases gs13 : ¬ (bt s 13 = 58)
  · have ts13 : ((bt s 13 : Int) != 58) = true := by rw [bne_iff_ne, ne_eq]; omega
    repeat (first
      | (with_reducible refine lops_step fun K hK => ?_; simp (disch := first | omega | (simp only [go_sem, isRow, isFlat, Option.isSome_some]; done) | assumption | (simp only [ints_length, List.length_replicate, List.length_set, List.length_append, List.length_take, List.length_drop, List.length_cons, List.length_nil] <;> omega) | fail) only [go_sem, Nat.reduceAdd, Nat.reduceSub, reduceIte, Nat.reduceEqDiff, Int.reduceToNat, Int.reduceBEq, Int.reduceBNe, ts13, q1, hb4, hb7, hb10, hb13, hb16, hb19, tD0, tD5, tD8, tD11, tD14, tD17, ts4, ts7, ts10]; (try (first | (refine And.intro (fun _ => ?_) (fun h => absurd h (by decide))) | (refine And.intro (fun h => absurd h (by decide)) (fun _ => ?_)))); (repeat (with_reducible refine And.intro (by first | omega | rfl | assumption | decide) ?_)); (first | (refine hK _ _ ?_) | (refine ⟨_, rfl, hK _ _ ?_⟩) | (refine Or.inl (hK _ _ ?_)) | (refine ⟨_, _, Or.inl (p0.go _), (by first | exact ⟨[], (List.append_nil _).symm⟩ | exact ⟨_, rfl⟩), hK _ _ ?_⟩) | (refine ⟨_, _, Or.inl (p0.go _), hK _ _ ?_⟩) | (refine ⟨_, _, Or.inl (p0.go _).weakQ, hK _ _ ?_⟩) | (refine ⟨_, _, Or.inl (p5.go _), (by first | exact ⟨[], (List.append_nil _).symm⟩ | exact ⟨_, rfl⟩), hK _ _ ?_⟩) | (refine ⟨_, _, Or.inl (p5.go _), hK _ _ ?_⟩) | (refine ⟨_, _, Or.inl (p5.go _).weakQ, hK _ _ ?_⟩) | (refine ⟨_, _, Or.inl (p8.go _), (by first | exact ⟨[], (List.append_nil _).symm⟩ | exact ⟨_, rfl⟩), hK _ _ ?_⟩) | (refine ⟨_, _, Or.inl (p8.go _), hK _ _ ?_⟩) | (refine ⟨_, _, Or.inl (p8.go _).weakQ, hK _ _ ?_⟩) | (refine ⟨_, _, Or.inl (p11.go _), (by first | exact ⟨[], (List.append_nil _).symm⟩ | exact ⟨_, rfl⟩), hK _ _ ?_⟩) | (refine ⟨_, _, Or.inl (p11.go _), hK _ _ ?_⟩) | (refine ⟨_, _, Or.inl (p11.go _).weakQ, hK _ _ ?_⟩) | (refine ⟨_, _, Or.inl (p14.go _), (by first | exact ⟨[], (List.append_nil _).symm⟩ | exact ⟨_, rfl⟩), hK _ _ ?_⟩) | (refine ⟨_, _, Or.inl (p14.go _), hK _ _ ?_⟩) | (refine ⟨_, _, Or.inl (p14.go _).weakQ, hK _ _ ?_⟩) | (refine ⟨_, _, Or.inl (p17.go _), (by first | exact ⟨[], (List.append_nil _).symm⟩ | exact ⟨_, rfl⟩), hK _ _ ?_⟩) | (refine ⟨_, _, Or.inl (p17.go _), hK _ _ ?_⟩) | (refine ⟨_, _, Or.inl (p17.go _).weakQ, hK _ _ ?_⟩)); clear hK K)
      | (with_reducible refine lops_nil ?_)
      | (with_reducible refine lavc_reg ?_)
      | (with_reducible refine lavc_seq ?_)
      | (with_reducible refine lavc_block ?_)
      | (with_reducible refine lavc_skip ?_)
      | (with_reducible refine lavc_exit ?_)
      | (with_reducible refine lavc_ret ?_)
      | (with_reducible refine lavcR_round ?_)
      | (refine lavc_cond rfl (fun _ => ?_) (fun hc => absurd hc (by decide)))
      | (refine lavc_cond rfl (fun hc => absurd hc (by decide)) (fun _ => ?_))
      | (simp only [↓reduceIte, Nat.reduceEqDiff, reduceCtorEq]))
    refine And.intro (by simp) ?_
    simp (disch := first | omega | (simp only [go_sem, isRow, isFlat, Option.isSome_some]; done) | assumption | (simp only [ints_length, List.length_replicate, List.length_set, List.length_append, List.length_take, List.length_drop, List.length_cons, List.length_nil] <;> omega) | fail) only [go_sem, Nat.reduceAdd, Nat.reduceSub, reduceIte, Nat.reduceEqDiff, Int.reduceToNat, Int.reduceBEq, Int.reduceBNe, aret, aretL, aret1, aenv]
    (repeat (with_reducible refine And.intro (by first | omega | rfl | assumption | decide) ?_))
    exact end0 (NR.t2 _ _) rfl
  replace gs13 := Decidable.not_not.1 gs13
  have ts13 : ((bt s 13 : Int) != 58) = false := by rw [bne_eq_false_iff_eq]; omega
  by_cases gs16 : ¬ (bt s 16 = 58)
  · have ts16 : ((bt s 16 : Int) != 58) = true := by rw [bne_iff_ne, ne_eq]; omega
    repeat (first
      | (with_reducible refine lops_step fun K hK => ?_; simp (disch := first | omega | (simp only [go_sem, isRow, isFlat, Option.isSome_some]; done) | assumption | (simp only [ints_length, List.length_replicate, List.length_set, List.length_append, List.length_take, List.length_drop, List.length_cons, List.length_nil] <;> omega) | fail) only [go_sem, Nat.reduceAdd, Nat.reduceSub, reduceIte, Nat.reduceEqDiff, Int.reduceToNat, Int.reduceBEq, Int.reduceBNe, ts16, q1, hb4, hb7, hb10, hb13, hb16, hb19, tD0, tD5, tD8, tD11, tD14, tD17, ts4, ts7, ts10, ts13]; (try (first | (refine And.intro (fun _ => ?_) (fun h => absurd h (by decide))) | (refine And.intro (fun h => absurd h (by decide)) (fun _ => ?_)))); (repeat (with_reducible refine And.intro (by first | omega | rfl | assumption | decide) ?_)); (first | (refine hK _ _ ?_) | (refine ⟨_, rfl, hK _ _ ?_⟩) | (refine Or.inl (hK _ _ ?_)) | (refine ⟨_, _, Or.inl (p0.go _), (by first | exact ⟨[], (List.append_nil _).symm⟩ | exact ⟨_, rfl⟩), hK _ _ ?_⟩) | (refine ⟨_, _, Or.inl (p0.go _), hK _ _ ?_⟩) | (refine ⟨_, _, Or.inl (p0.go _).weakQ, hK _ _ ?_⟩) | (refine ⟨_, _, Or.inl (p5.go _), (by first | exact ⟨[], (List.append_nil _).symm⟩ | exact ⟨_, rfl⟩), hK _ _ ?_⟩) | (refine ⟨_, _, Or.inl (p5.go _), hK _ _ ?_⟩) | (refine ⟨_, _, Or.inl (p5.go _).weakQ, hK _ _ ?_⟩) | (refine ⟨_, _, Or.inl (p8.go _), (by first | exact ⟨[], (List.append_nil _).symm⟩ | exact ⟨_, rfl⟩), hK _ _ ?_⟩) | (refine ⟨_, _, Or.inl (p8.go _), hK _ _ ?_⟩) | (refine ⟨_, _, Or.inl (p8.go _).weakQ, hK _ _ ?_⟩) | (refine ⟨_, _, Or.inl (p11.go _), (by first | exact ⟨[], (List.append_nil _).symm⟩ | exact ⟨_, rfl⟩), hK _ _ ?_⟩) | (refine ⟨_, _, Or.inl (p11.go _), hK _ _ ?_⟩) | (refine ⟨_, _, Or.inl (p11.go _).weakQ, hK _ _ ?_⟩) | (refine ⟨_, _, Or.inl (p14.go _), (by first | exact ⟨[], (List.append_nil _).symm⟩ | exact ⟨_, rfl⟩), hK _ _ ?_⟩) | (refine ⟨_, _, Or.inl (p14.go _), hK _ _ ?_⟩) | (refine ⟨_, _, Or.inl (p14.go _).weakQ, hK _ _ ?_⟩) | (refine ⟨_, _, Or.inl (p17.go _), (by first | exact ⟨[], (List.append_nil _).symm⟩ | exact ⟨_, rfl⟩), hK _ _ ?_⟩) | (refine ⟨_, _, Or.inl (p17.go _), hK _ _ ?_⟩) | (refine ⟨_, _, Or.inl (p17.go _).weakQ, hK _ _ ?_⟩)); clear hK K)
      | (with_reducible refine lops_nil ?_)
      | (with_reducible refine lavc_reg ?_)
      | (with_reducible refine lavc_seq ?_)
      | (with_reducible refine lavc_block ?_)
      | (with_reducible refine lavc_skip ?_)
      | (with_reducible refine lavc_exit ?_)
      | (with_reducible refine lavc_ret ?_)
      | (with_reducible refine lavcR_round ?_)
      | (refine lavc_cond rfl (fun _ => ?_) (fun hc => absurd hc (by decide)))
      | (refine lavc_cond rfl (fun hc => absurd hc (by decide)) (fun _ => ?_))
      | (simp only [↓reduceIte, Nat.reduceEqDiff, reduceCtorEq]))
    refine And.intro (by simp) ?_
    simp (disch := first | omega | (simp only [go_sem, isRow, isFlat, Option.isSome_some]; done) | assumption | (simp only [ints_length, List.length_replicate, List.length_set, List.length_append, List.length_take, List.length_drop, List.length_cons, List.length_nil] <;> omega) | fail) only [go_sem, Nat.reduceAdd, Nat.reduceSub, reduceIte, Nat.reduceEqDiff, Int.reduceToNat, Int.reduceBEq, Int.reduceBNe, aret, aretL, aret1, aenv]
    (repeat (with_reducible refine And.intro (by first | omega | rfl | assumption | decide) ?_))
    exact end0 (NR.t2 _ _) rfl
  replace gs16 := Decidable.not_not.1 gs16
  have ts16 : ((bt s 16 : Int) != 58) = false := by rw [bne_eq_false_iff_eq]; omega
  have hd : D19 s := ⟨gD0, gs4, gD5, gs7, gD8, gs10, gD11, gs13, gD14, gs16, gD17⟩
  have z20 : ((s.size : Int) == 20) = true := by rw [beq_iff_eq]; omega
  have g19 : bt s 19 ≠ 90 := fun h => hn ⟨hd, .inl ⟨hs, h⟩⟩
  have t19 : ((bt s 19 : Int) != 90) = true := by rw [bne_iff_ne, ne_eq]; omega
  repeat (first
    | (with_reducible refine lops_step fun K hK => ?_; simp (disch := first | omega | (simp only [go_sem, isRow, isFlat, Option.isSome_some]; done) | assumption | (simp only [ints_length, List.length_replicate, List.length_set, List.length_append, List.length_take, List.length_drop, List.length_cons, List.length_nil] <;> omega) | fail) only [go_sem, Nat.reduceAdd, Nat.reduceSub, reduceIte, Nat.reduceEqDiff, Int.reduceToNat, Int.reduceBEq, Int.reduceBNe, t19, q1, hb4, hb7, hb10, hb13, hb16, hb19, tD0, tD5, tD8, tD11, tD14, tD17, ts4, ts7, ts10, ts13, ts16, z20]; (try (first | (refine And.intro (fun _ => ?_) (fun h => absurd h (by decide))) | (refine And.intro (fun h => absurd h (by decide)) (fun _ => ?_)))); (repeat (with_reducible refine And.intro (by first | omega | rfl | assumption | decide) ?_)); (first | (refine hK _ _ ?_) | (refine ⟨_, rfl, hK _ _ ?_⟩) | (refine Or.inl (hK _ _ ?_)) | (refine ⟨_, _, Or.inl (p0.go _), (by first | exact ⟨[], (List.append_nil _).symm⟩ | exact ⟨_, rfl⟩), hK _ _ ?_⟩) | (refine ⟨_, _, Or.inl (p0.go _), hK _ _ ?_⟩) | (refine ⟨_, _, Or.inl (p0.go _).weakQ, hK _ _ ?_⟩) | (refine ⟨_, _, Or.inl (p5.go _), (by first | exact ⟨[], (List.append_nil _).symm⟩ | exact ⟨_, rfl⟩), hK _ _ ?_⟩) | (refine ⟨_, _, Or.inl (p5.go _), hK _ _ ?_⟩) | (refine ⟨_, _, Or.inl (p5.go _).weakQ, hK _ _ ?_⟩) | (refine ⟨_, _, Or.inl (p8.go _), (by first | exact ⟨[], (List.append_nil _).symm⟩ | exact ⟨_, rfl⟩), hK _ _ ?_⟩) | (refine ⟨_, _, Or.inl (p8.go _), hK _ _ ?_⟩) | (refine ⟨_, _, Or.inl (p8.go _).weakQ, hK _ _ ?_⟩) | (refine ⟨_, _, Or.inl (p11.go _), (by first | exact ⟨[], (List.append_nil _).symm⟩ | exact ⟨_, rfl⟩), hK _ _ ?_⟩) | (refine ⟨_, _, Or.inl (p11.go _), hK _ _ ?_⟩) | (refine ⟨_, _, Or.inl (p11.go _).weakQ, hK _ _ ?_⟩) | (refine ⟨_, _, Or.inl (p14.go _), (by first | exact ⟨[], (List.append_nil _).symm⟩ | exact ⟨_, rfl⟩), hK _ _ ?_⟩) | (refine ⟨_, _, Or.inl (p14.go _), hK _ _ ?_⟩) | (refine ⟨_, _, Or.inl (p14.go _).weakQ, hK _ _ ?_⟩) | (refine ⟨_, _, Or.inl (p17.go _), (by first | exact ⟨[], (List.append_nil _).symm⟩ | exact ⟨_, rfl⟩), hK _ _ ?_⟩) | (refine ⟨_, _, Or.inl (p17.go _), hK _ _ ?_⟩) | (refine ⟨_, _, Or.inl (p17.go _).weakQ, hK _ _ ?_⟩)); clear hK K)
    | (with_reducible refine lops_nil ?_)
    | (with_reducible refine lavc_reg ?_)
    | (with_reducible refine lavc_seq ?_)
    | (with_reducible refine lavc_block ?_)
    | (with_reducible refine lavc_skip ?_)
    | (with_reducible refine lavc_exit ?_)
    | (with_reducible refine lavc_ret ?_)
    | (with_reducible refine lavcR_round ?_)
    | (refine lavc_cond rfl (fun _ => ?_) (fun hc => absurd hc (by decide)))
    | (refine lavc_cond rfl (fun hc => absurd hc (by decide)) (fun _ => ?_))
    | (simp only [↓reduceIte, Nat.reduceEqDiff, reduceCtorEq]))
  refine And.intro (by simp) ?_
  simp (disch := first | omega | (simp only [go_sem, isRow, isFlat, Option.isSome_some]; done) | assumption | (simp only [ints_length, List.length_replicate, List.length_set, List.length_append, List.length_take, List.length_drop, List.length_cons, List.length_nil] <;> omega) | fail) only [go_sem, Nat.reduceAdd, Nat.reduceSub, reduceIte, Nat.reduceEqDiff, Int.reduceToNat, Int.reduceBEq, Int.reduceBNe, aret, aretL, aret1, aenv]
  (repeat (with_reducible refine And.intro (by first | omega | rfl | assumption | decide) ?_))
  exact end0 (NR.t2 _ _) rfl
end Go.Abs.S
