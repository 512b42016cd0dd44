/- HourOrders, HourSteps. -/
import Derived.Test.YtjmalnoehmgenaaDoorHouO
import Derived.Test.YtjmalnoehmgenaaDoorCodL
namespace Go.Abs.S
attribute [local go_sem] lguard aopO aop nxL aenv toAV tput aLoad aStore vcells aBin aNilI aUn aAlloc aBox aBuild aBSlice afill aConv isIntT aappZ aCap aArr aMM aMake aSlice bnd3 bnd aFldAddr aFld aIdxAddr aIdx aExt aLen aCopy aEq0 bAV aUb aapp aappQ agh acont List.getD_cons_zero List.getD_cons_succ List.set_cons_zero List.set_cons_succ List.getElem?_cons_zero List.getElem?_cons_succ List.length_cons List.length_nil List.map_cons List.map_nil ints_length if_true if_false Bool.false_eq_true true_and and_true eq_self ne_eq not_false_eq_true not_true_eq_false beq_self_eq_true Nat.zero_add Nat.add_zero Nat.mul_one Nat.zero_mul Int.toNat_natCast List.toList_toArray List.all_cons List.all_nil AV.one Value.oneCell' Bool.and_true Bool.true_and forall_const true_implies false_implies implies_true Option.map_some Option.map_none Option.isSome_some Option.isSome_none imp_self rdP_flat rdP_row splice_one ints_set ints_get List.append_nil List.cons_append List.nil_append List.getElem?_toArray List.drop_zero ints_drop ints_take List.take_of_length_le splice_all ints_one Option.some.injEq Option.getD_some List.length_replicate zArr List.map_replicate rep_ints splice_intsR List.length_set List.length_append List.flatten_replicate_singleton rep_slice rep_string rep_bool rep_iface List.replicate_zero if_pos if_neg List.mapM_cons List.mapM_nil Option.pure_def Option.bind_eq_bind Option.bind_some Bool.true_eq_false Bool.not_false Bool.not_true get_concat set_concat
open Go.Proofs
open Go.Abs.H
set_option linter.unusedVariables false
set_option linter.unusedSimpArgs false
set_option maxRecDepth 100000
set_option maxHeartbeats 4000000
theorem txt_gtr {a b : Mom} (ha : a.ok) (hb : b.ok) (h : secs b < secs a) : (!(Op.bytesLess (strOf (txt a)).toList (strOf (txt b)).toList || (strOf (txt a)).toList == (strOf (txt b)).toList)) = true := by
  rw [txt_less ha hb, str_beq, decide_eq_false (by omega), decide_eq_false (fun e => by have := (txt_inj ha hb).1 e; omega)]
  rfl
theorem hourOrders_p (a b : Int) : PCall Tryd.prog glob 7 [iv a, iv b] (.v (.bool true)) := by
  refine PCall.of ctx.nr (by (repeat (refine List.forall_mem_cons.2 (And.intro (by first | exact NR.v _ | exact NR.agg (NR.ints _ _) | exact NR.vsl (NR.ints _ _) | exact NR.vptr (NR.ints _ _) | assumption) ?_))); exact fun _ h => absurd h List.not_mem_nil) (NR.v _) ?_
  refine lcall7 (by simp) 0 (Nat.le_refl _) ?_
  unfold lc7
  simp only [List.length_cons, List.length_nil, Nat.reduceAdd, Nat.reduceSub, List.replicate_succ, List.replicate_zero, List.cons_append, List.nil_append]
  have aw := awake_p
  have z0 : ((0 : Int) != 0) = false := rfl
  have z12 : ((12 : Int) != 0) = true := rfl
  by_cases ga : ¬ (tFirst ≤ a ∧ a ≤ tLast)
  · have ta := Text_bad a ga
    by_cases gb : ¬ (tFirst ≤ b ∧ b ≤ tLast)
    · have tb := Text_bad b gb
      repeat (first
        | (with_reducible refine lops_step fun K hK => ?_; simp (disch := first | omega | (simp only [go_sem, isRow, isFlat, Option.isSome_some]; done) | assumption | (simp only [ints_length, List.length_replicate, List.length_set, List.length_append, List.length_take, List.length_drop, List.length_cons, List.length_nil] <;> omega) | fail) only [go_sem, Nat.reduceAdd, Nat.reduceSub, reduceIte, Nat.reduceEqDiff, Int.reduceToNat, Int.reduceBEq, Int.reduceBNe, z0, z12]; (try (first | (refine And.intro (fun _ => ?_) (fun h => absurd h (by decide))) | (refine And.intro (fun h => absurd h (by decide)) (fun _ => ?_)))); (repeat (with_reducible refine And.intro (by first | omega | rfl | assumption | decide) ?_)); (first | (refine hK _ _ ?_) | (refine ⟨_, rfl, hK _ _ ?_⟩) | (refine Or.inl (hK _ _ ?_)) | (refine ⟨_, _, Or.inl (aw.go _), (by first | exact ⟨[], (List.append_nil _).symm⟩ | exact ⟨_, rfl⟩), hK _ _ ?_⟩) | (refine ⟨_, _, Or.inl (aw.go _), hK _ _ ?_⟩) | (refine ⟨_, _, Or.inl (aw.go _).weakQ, hK _ _ ?_⟩) | (refine ⟨_, _, Or.inl (ta.go _), (by first | exact ⟨[], (List.append_nil _).symm⟩ | exact ⟨_, rfl⟩), hK _ _ ?_⟩) | (refine ⟨_, _, Or.inl (ta.go _), hK _ _ ?_⟩) | (refine ⟨_, _, Or.inl (ta.go _).weakQ, hK _ _ ?_⟩) | (refine ⟨_, _, Or.inl (tb.go _), (by first | exact ⟨[], (List.append_nil _).symm⟩ | exact ⟨_, rfl⟩), hK _ _ ?_⟩) | (refine ⟨_, _, Or.inl (tb.go _), hK _ _ ?_⟩) | (refine ⟨_, _, Or.inl (tb.go _).weakQ, hK _ _ ?_⟩)); clear hK K)
        | (with_reducible refine lops_nil ?_)
        | (with_reducible refine lavc_reg ?_)
        | (with_reducible refine lavc_seq ?_)
        | (with_reducible refine lavc_block ?_)
        | (with_reducible refine lavc_skip ?_)
        | (with_reducible refine lavc_exit ?_)
        | (with_reducible refine lavc_ret ?_)
        | (with_reducible refine lavcR_round ?_)
        | (refine lavc_cond rfl (fun _ => ?_) (fun hc => absurd hc (by decide)))
        | (refine lavc_cond rfl (fun hc => absurd hc (by decide)) (fun _ => ?_))
        | (simp only [↓reduceIte, Nat.reduceEqDiff, reduceCtorEq]))
      refine And.intro (by simp) ?_
      simp (disch := first | omega | (simp only [go_sem, isRow, isFlat, Option.isSome_some]; done) | assumption | (simp only [ints_length, List.length_replicate, List.length_set, List.length_append, List.length_take, List.length_drop, List.length_cons, List.length_nil] <;> omega) | fail) only [go_sem, Nat.reduceAdd, Nat.reduceSub, reduceIte, Nat.reduceEqDiff, Int.reduceToNat, Int.reduceBEq, Int.reduceBNe, aret, aretL, aret1, aenv]
      (repeat (with_reducible refine And.intro (by first | omega | rfl | assumption | decide) ?_))
      exact end0 (NR.v _) rfl
    · obtain ⟨u, hu, rfl⟩ := mom_of b (Decidable.not_not.1 gb).1 (Decidable.not_not.1 gb).2
      have tb := Text_p u hu
      repeat (first
        | (with_reducible refine lops_step fun K hK => ?_; simp (disch := first | omega | (simp only [go_sem, isRow, isFlat, Option.isSome_some]; done) | assumption | (simp only [ints_length, List.length_replicate, List.length_set, List.length_append, List.length_take, List.length_drop, List.length_cons, List.length_nil] <;> omega) | fail) only [go_sem, Nat.reduceAdd, Nat.reduceSub, reduceIte, Nat.reduceEqDiff, Int.reduceToNat, Int.reduceBEq, Int.reduceBNe, z0, z12]; (try (first | (refine And.intro (fun _ => ?_) (fun h => absurd h (by decide))) | (refine And.intro (fun h => absurd h (by decide)) (fun _ => ?_)))); (repeat (with_reducible refine And.intro (by first | omega | rfl | assumption | decide) ?_)); (first | (refine hK _ _ ?_) | (refine ⟨_, rfl, hK _ _ ?_⟩) | (refine Or.inl (hK _ _ ?_)) | (refine ⟨_, _, Or.inl (aw.go _), (by first | exact ⟨[], (List.append_nil _).symm⟩ | exact ⟨_, rfl⟩), hK _ _ ?_⟩) | (refine ⟨_, _, Or.inl (aw.go _), hK _ _ ?_⟩) | (refine ⟨_, _, Or.inl (aw.go _).weakQ, hK _ _ ?_⟩) | (refine ⟨_, _, Or.inl (ta.go _), (by first | exact ⟨[], (List.append_nil _).symm⟩ | exact ⟨_, rfl⟩), hK _ _ ?_⟩) | (refine ⟨_, _, Or.inl (ta.go _), hK _ _ ?_⟩) | (refine ⟨_, _, Or.inl (ta.go _).weakQ, hK _ _ ?_⟩) | (refine ⟨_, _, Or.inl (tb.go _), (by first | exact ⟨[], (List.append_nil _).symm⟩ | exact ⟨_, rfl⟩), hK _ _ ?_⟩) | (refine ⟨_, _, Or.inl (tb.go _), hK _ _ ?_⟩) | (refine ⟨_, _, Or.inl (tb.go _).weakQ, hK _ _ ?_⟩)); clear hK K)
        | (with_reducible refine lops_nil ?_)
        | (with_reducible refine lavc_reg ?_)
        | (with_reducible refine lavc_seq ?_)
        | (with_reducible refine lavc_block ?_)
        | (with_reducible refine lavc_skip ?_)
        | (with_reducible refine lavc_exit ?_)
        | (with_reducible refine lavc_ret ?_)
        | (with_reducible refine lavcR_round ?_)
        | (refine lavc_cond rfl (fun _ => ?_) (fun hc => absurd hc (by decide)))
        | (refine lavc_cond rfl (fun hc => absurd hc (by decide)) (fun _ => ?_))
        | (simp only [↓reduceIte, Nat.reduceEqDiff, reduceCtorEq]))
      refine And.intro (by simp) ?_
      simp (disch := first | omega | (simp only [go_sem, isRow, isFlat, Option.isSome_some]; done) | assumption | (simp only [ints_length, List.length_replicate, List.length_set, List.length_append, List.length_take, List.length_drop, List.length_cons, List.length_nil] <;> omega) | fail) only [go_sem, Nat.reduceAdd, Nat.reduceSub, reduceIte, Nat.reduceEqDiff, Int.reduceToNat, Int.reduceBEq, Int.reduceBNe, aret, aretL, aret1, aenv]
      (repeat (with_reducible refine And.intro (by first | omega | rfl | assumption | decide) ?_))
      exact end0 (NR.v _) rfl
  obtain ⟨t, ht, rfl⟩ := mom_of a (Decidable.not_not.1 ga).1 (Decidable.not_not.1 ga).2
  have ta := Text_p t ht
  by_cases gb : ¬ (tFirst ≤ b ∧ b ≤ tLast)
  · have tb := Text_bad b gb
    repeat (first
      | (with_reducible refine lops_step fun K hK => ?_; simp (disch := first | omega | (simp only [go_sem, isRow, isFlat, Option.isSome_some]; done) | assumption | (simp only [ints_length, List.length_replicate, List.length_set, List.length_append, List.length_take, List.length_drop, List.length_cons, List.length_nil] <;> omega) | fail) only [go_sem, Nat.reduceAdd, Nat.reduceSub, reduceIte, Nat.reduceEqDiff, Int.reduceToNat, Int.reduceBEq, Int.reduceBNe, z0, z12]; (try (first | (refine And.intro (fun _ => ?_) (fun h => absurd h (by decide))) | (refine And.intro (fun h => absurd h (by decide)) (fun _ => ?_)))); (repeat (with_reducible refine And.intro (by first | omega | rfl | assumption | decide) ?_)); (first | (refine hK _ _ ?_) | (refine ⟨_, rfl, hK _ _ ?_⟩) | (refine Or.inl (hK _ _ ?_)) | (refine ⟨_, _, Or.inl (aw.go _), (by first | exact ⟨[], (List.append_nil _).symm⟩ | exact ⟨_, rfl⟩), hK _ _ ?_⟩) | (refine ⟨_, _, Or.inl (aw.go _), hK _ _ ?_⟩) | (refine ⟨_, _, Or.inl (aw.go _).weakQ, hK _ _ ?_⟩) | (refine ⟨_, _, Or.inl (ta.go _), (by first | exact ⟨[], (List.append_nil _).symm⟩ | exact ⟨_, rfl⟩), hK _ _ ?_⟩) | (refine ⟨_, _, Or.inl (ta.go _), hK _ _ ?_⟩) | (refine ⟨_, _, Or.inl (ta.go _).weakQ, hK _ _ ?_⟩) | (refine ⟨_, _, Or.inl (tb.go _), (by first | exact ⟨[], (List.append_nil _).symm⟩ | exact ⟨_, rfl⟩), hK _ _ ?_⟩) | (refine ⟨_, _, Or.inl (tb.go _), hK _ _ ?_⟩) | (refine ⟨_, _, Or.inl (tb.go _).weakQ, hK _ _ ?_⟩)); clear hK K)
      | (with_reducible refine lops_nil ?_)
      | (with_reducible refine lavc_reg ?_)
      | (with_reducible refine lavc_seq ?_)
      | (with_reducible refine lavc_block ?_)
      | (with_reducible refine lavc_skip ?_)
      | (with_reducible refine lavc_exit ?_)
      | (with_reducible refine lavc_ret ?_)
      | (with_reducible refine lavcR_round ?_)
      | (refine lavc_cond rfl (fun _ => ?_) (fun hc => absurd hc (by decide)))
      | (refine lavc_cond rfl (fun hc => absurd hc (by decide)) (fun _ => ?_))
      | (simp only [↓reduceIte, Nat.reduceEqDiff, reduceCtorEq]))
    refine And.intro (by simp) ?_
    simp (disch := first | omega | (simp only [go_sem, isRow, isFlat, Option.isSome_some]; done) | assumption | (simp only [ints_length, List.length_replicate, List.length_set, List.length_append, List.length_take, List.length_drop, List.length_cons, List.length_nil] <;> omega) | fail) only [go_sem, Nat.reduceAdd, Nat.reduceSub, reduceIte, Nat.reduceEqDiff, Int.reduceToNat, Int.reduceBEq, Int.reduceBNe, aret, aretL, aret1, aenv]
    (repeat (with_reducible refine And.intro (by first | omega | rfl | assumption | decide) ?_))
    exact end0 (NR.v _) rfl
  obtain ⟨u, hu, rfl⟩ := mom_of b (Decidable.not_not.1 gb).1 (Decidable.not_not.1 gb).2
  have tb := Text_p u hu
  have c1 : (!(decide (secs t < secs u) == Op.bytesLess (strOf (txt t)).toList (strOf (txt u)).toList)) = false := by rw [txt_less ht hu]; simp
  have c2 : (!((secs t == secs u) == ((strOf (txt t)).toList == (strOf (txt u)).toList))) = false := by
    have : ((strOf (txt t)).toList == (strOf (txt u)).toList) = (secs t == secs u) := by
      rw [str_beq, Bool.eq_iff_iff, decide_eq_true_eq, beq_iff_eq]
      exact txt_inj ht hu
    rw [this]
    simp
  have hin := secs_in ht
  unfold tFirst tLast at hin
  have w1 := i64z (secs t + 86400) (by omega)
  by_cases gc : ¬ (tFirst ≤ secs t + 86400 ∧ secs t + 86400 ≤ tLast)
  · have tc := Text_bad _ gc
    obtain ⟨N, hN⟩ : ∃ N, secs t = N := ⟨_, rfl⟩
    rw [hN] at ta tc w1 c1 c2 ⊢
    repeat (first
      | (with_reducible refine lops_step fun K hK => ?_; simp (disch := first | omega | (simp only [go_sem, isRow, isFlat, Option.isSome_some]; done) | assumption | (simp only [ints_length, List.length_replicate, List.length_set, List.length_append, List.length_take, List.length_drop, List.length_cons, List.length_nil] <;> omega) | fail) only [go_sem, Nat.reduceAdd, Nat.reduceSub, reduceIte, Nat.reduceEqDiff, Int.reduceToNat, Int.reduceBEq, Int.reduceBNe, z0, z12, c1, c2, w1]; (try (first | (refine And.intro (fun _ => ?_) (fun h => absurd h (by decide))) | (refine And.intro (fun h => absurd h (by decide)) (fun _ => ?_)))); (repeat (with_reducible refine And.intro (by first | omega | rfl | assumption | decide) ?_)); (first | (refine hK _ _ ?_) | (refine ⟨_, rfl, hK _ _ ?_⟩) | (refine Or.inl (hK _ _ ?_)) | (refine ⟨_, _, Or.inl (aw.go _), (by first | exact ⟨[], (List.append_nil _).symm⟩ | exact ⟨_, rfl⟩), hK _ _ ?_⟩) | (refine ⟨_, _, Or.inl (aw.go _), hK _ _ ?_⟩) | (refine ⟨_, _, Or.inl (aw.go _).weakQ, hK _ _ ?_⟩) | (refine ⟨_, _, Or.inl (ta.go _), (by first | exact ⟨[], (List.append_nil _).symm⟩ | exact ⟨_, rfl⟩), hK _ _ ?_⟩) | (refine ⟨_, _, Or.inl (ta.go _), hK _ _ ?_⟩) | (refine ⟨_, _, Or.inl (ta.go _).weakQ, hK _ _ ?_⟩) | (refine ⟨_, _, Or.inl (tb.go _), (by first | exact ⟨[], (List.append_nil _).symm⟩ | exact ⟨_, rfl⟩), hK _ _ ?_⟩) | (refine ⟨_, _, Or.inl (tb.go _), hK _ _ ?_⟩) | (refine ⟨_, _, Or.inl (tb.go _).weakQ, hK _ _ ?_⟩) | (refine ⟨_, _, Or.inl (tc.go _), (by first | exact ⟨[], (List.append_nil _).symm⟩ | exact ⟨_, rfl⟩), hK _ _ ?_⟩) | (refine ⟨_, _, Or.inl (tc.go _), hK _ _ ?_⟩) | (refine ⟨_, _, Or.inl (tc.go _).weakQ, hK _ _ ?_⟩)); clear hK K)
      | (with_reducible refine lops_nil ?_)
      | (with_reducible refine lavc_reg ?_)
      | (with_reducible refine lavc_seq ?_)
      | (with_reducible refine lavc_block ?_)
      | (with_reducible refine lavc_skip ?_)
      | (with_reducible refine lavc_exit ?_)
      | (with_reducible refine lavc_ret ?_)
      | (with_reducible refine lavcR_round ?_)
      | (refine lavc_cond rfl (fun _ => ?_) (fun hc => absurd hc (by decide)))
      | (refine lavc_cond rfl (fun hc => absurd hc (by decide)) (fun _ => ?_))
      | (simp only [↓reduceIte, Nat.reduceEqDiff, reduceCtorEq]))
    refine And.intro (by simp) ?_
    simp (disch := first | omega | (simp only [go_sem, isRow, isFlat, Option.isSome_some]; done) | assumption | (simp only [ints_length, List.length_replicate, List.length_set, List.length_append, List.length_take, List.length_drop, List.length_cons, List.length_nil] <;> omega) | fail) only [go_sem, Nat.reduceAdd, Nat.reduceSub, reduceIte, Nat.reduceEqDiff, Int.reduceToNat, Int.reduceBEq, Int.reduceBNe, aret, aretL, aret1, aenv]
    (repeat (with_reducible refine And.intro (by first | omega | rfl | assumption | decide) ?_))
    exact end0 (NR.v _) rfl
  obtain ⟨v, hv, hvs⟩ := mom_of _ (Decidable.not_not.1 gc).1 (Decidable.not_not.1 gc).2
  have tc := Text_p v hv
  rw [hvs] at tc
  have k1 := txt_gtr hv ht (by omega)
  have p1 := secs_parts hv
  have p2 := secs_parts ht
  have k2 : (strOf (txt v)).extract 10 20 = (strOf (txt t)).extract 10 20 := by
    rw [txt_10, txt_10]
    have e1 : v.h = t.h := by omega
    have e2 : v.i = t.i := by omega
    have e3 : v.s = t.s := by omega
    rw [e1, e2, e3]
  have bs : ∀ s : ByteArray, (s.toList == s.toList) = true := fun s => by simp
  have za := txt_z t
  have zv := txt_z v
  obtain ⟨N, hN⟩ : ∃ N, secs t = N := ⟨_, rfl⟩
  rw [hN] at ta tc w1 c1 c2 ⊢
  obtain ⟨A, hA⟩ : ∃ A, strOf (txt t) = A := ⟨_, rfl⟩
  obtain ⟨V, hV⟩ : ∃ V, strOf (txt v) = V := ⟨_, rfl⟩
  rw [hA] at ta c1 c2 k1 k2 za
  rw [hV] at tc k1 k2 zv
  repeat (first
    | (with_reducible refine lops_step fun K hK => ?_; simp (disch := first | omega | (simp only [go_sem, isRow, isFlat, Option.isSome_some]; done) | assumption | (simp only [ints_length, List.length_replicate, List.length_set, List.length_append, List.length_take, List.length_drop, List.length_cons, List.length_nil] <;> omega) | fail) only [go_sem, Nat.reduceAdd, Nat.reduceSub, reduceIte, Nat.reduceEqDiff, Int.reduceToNat, Int.reduceBEq, Int.reduceBNe, z0, z12, c1, c2, w1, k1, k2, bs, za, zv]; (try (first | (refine And.intro (fun _ => ?_) (fun h => absurd h (by decide))) | (refine And.intro (fun h => absurd h (by decide)) (fun _ => ?_)))); (repeat (with_reducible refine And.intro (by first | omega | rfl | assumption | decide) ?_)); (first | (refine hK _ _ ?_) | (refine ⟨_, rfl, hK _ _ ?_⟩) | (refine Or.inl (hK _ _ ?_)) | (refine ⟨_, _, Or.inl (aw.go _), (by first | exact ⟨[], (List.append_nil _).symm⟩ | exact ⟨_, rfl⟩), hK _ _ ?_⟩) | (refine ⟨_, _, Or.inl (aw.go _), hK _ _ ?_⟩) | (refine ⟨_, _, Or.inl (aw.go _).weakQ, hK _ _ ?_⟩) | (refine ⟨_, _, Or.inl (ta.go _), (by first | exact ⟨[], (List.append_nil _).symm⟩ | exact ⟨_, rfl⟩), hK _ _ ?_⟩) | (refine ⟨_, _, Or.inl (ta.go _), hK _ _ ?_⟩) | (refine ⟨_, _, Or.inl (ta.go _).weakQ, hK _ _ ?_⟩) | (refine ⟨_, _, Or.inl (tb.go _), (by first | exact ⟨[], (List.append_nil _).symm⟩ | exact ⟨_, rfl⟩), hK _ _ ?_⟩) | (refine ⟨_, _, Or.inl (tb.go _), hK _ _ ?_⟩) | (refine ⟨_, _, Or.inl (tb.go _).weakQ, hK _ _ ?_⟩) | (refine ⟨_, _, Or.inl (tc.go _), (by first | exact ⟨[], (List.append_nil _).symm⟩ | exact ⟨_, rfl⟩), hK _ _ ?_⟩) | (refine ⟨_, _, Or.inl (tc.go _), hK _ _ ?_⟩) | (refine ⟨_, _, Or.inl (tc.go _).weakQ, hK _ _ ?_⟩)); clear hK K)
    | (with_reducible refine lops_nil ?_)
    | (with_reducible refine lavc_reg ?_)
    | (with_reducible refine lavc_seq ?_)
    | (with_reducible refine lavc_block ?_)
    | (with_reducible refine lavc_skip ?_)
    | (with_reducible refine lavc_exit ?_)
    | (with_reducible refine lavc_ret ?_)
    | (with_reducible refine lavcR_round ?_)
    | (refine lavc_cond rfl (fun _ => ?_) (fun hc => absurd hc (by decide)))
    | (refine lavc_cond rfl (fun hc => absurd hc (by decide)) (fun _ => ?_))
    | (simp only [↓reduceIte, Nat.reduceEqDiff, reduceCtorEq]))
  refine And.intro (by simp) ?_
  simp (disch := first | omega | (simp only [go_sem, isRow, isFlat, Option.isSome_some]; done) | assumption | (simp only [ints_length, List.length_replicate, List.length_set, List.length_append, List.length_take, List.length_drop, List.length_cons, List.length_nil] <;> omega) | fail) only [go_sem, Nat.reduceAdd, Nat.reduceSub, reduceIte, Nat.reduceEqDiff, Int.reduceToNat, Int.reduceBEq, Int.reduceBNe, aret, aretL, aret1, aenv]
  (repeat (with_reducible refine And.intro (by first | omega | rfl | assumption | decide) ?_))
  exact end0 (NR.v _) rfl
theorem hourSteps_p (n : Int) : PCall Tryd.prog glob 9 [iv n] (.v (.bool true)) := by
  refine PCall.of ctx.nr (by (repeat (refine List.forall_mem_cons.2 (And.intro (by first | exact NR.v _ | exact NR.agg (NR.ints _ _) | exact NR.vsl (NR.ints _ _) | exact NR.vptr (NR.ints _ _) | assumption) ?_))); exact fun _ h => absurd h List.not_mem_nil) (NR.v _) ?_
  refine lcall9 (by simp) 0 (Nat.le_refl _) ?_
  unfold lc9
  simp only [List.length_cons, List.length_nil, Nat.reduceAdd, Nat.reduceSub, List.replicate_succ, List.replicate_zero, List.cons_append, List.nil_append]
  have aw := awake_p
  have z0 : ((0 : Int) == 0) = true := rfl
  have w0 : IntKind.i64.wrap (tLast - 3600) = 253402297199 := by unfold tLast; decide
  have eF : tFirst = -62167219200 := rfl
  by_cases g1 : n < tFirst
  · have d1 : decide (n < tFirst) = true := by rw [decide_eq_true_eq]; omega
    repeat (first
      | (with_reducible refine lops_step fun K hK => ?_; simp (disch := first | omega | (simp only [go_sem, isRow, isFlat, Option.isSome_some]; done) | assumption | (simp only [ints_length, List.length_replicate, List.length_set, List.length_append, List.length_take, List.length_drop, List.length_cons, List.length_nil] <;> omega) | fail) only [go_sem, Nat.reduceAdd, Nat.reduceSub, reduceIte, Nat.reduceEqDiff, Int.reduceToNat, Int.reduceBEq, Int.reduceBNe, d1, w0]; (try (first | (refine And.intro (fun _ => ?_) (fun h => absurd h (by decide))) | (refine And.intro (fun h => absurd h (by decide)) (fun _ => ?_)))); (repeat (with_reducible refine And.intro (by first | omega | rfl | assumption | decide) ?_)); (first | (refine hK _ _ ?_) | (refine ⟨_, rfl, hK _ _ ?_⟩) | (refine Or.inl (hK _ _ ?_)) | (refine ⟨_, _, Or.inl (aw.go _), (by first | exact ⟨[], (List.append_nil _).symm⟩ | exact ⟨_, rfl⟩), hK _ _ ?_⟩) | (refine ⟨_, _, Or.inl (aw.go _), hK _ _ ?_⟩) | (refine ⟨_, _, Or.inl (aw.go _).weakQ, hK _ _ ?_⟩) | (refine ⟨_, _, Or.inl (First_p.go _), (by first | exact ⟨[], (List.append_nil _).symm⟩ | exact ⟨_, rfl⟩), hK _ _ ?_⟩) | (refine ⟨_, _, Or.inl (First_p.go _), hK _ _ ?_⟩) | (refine ⟨_, _, Or.inl (First_p.go _).weakQ, hK _ _ ?_⟩) | (refine ⟨_, _, Or.inl (Last_p.go _), (by first | exact ⟨[], (List.append_nil _).symm⟩ | exact ⟨_, rfl⟩), hK _ _ ?_⟩) | (refine ⟨_, _, Or.inl (Last_p.go _), hK _ _ ?_⟩) | (refine ⟨_, _, Or.inl (Last_p.go _).weakQ, hK _ _ ?_⟩)); clear hK K)
      | (with_reducible refine lops_nil ?_)
      | (with_reducible refine lavc_reg ?_)
      | (with_reducible refine lavc_seq ?_)
      | (with_reducible refine lavc_block ?_)
      | (with_reducible refine lavc_skip ?_)
      | (with_reducible refine lavc_exit ?_)
      | (with_reducible refine lavc_ret ?_)
      | (with_reducible refine lavcR_round ?_)
      | (refine lavc_cond rfl (fun _ => ?_) (fun hc => absurd hc (by decide)))
      | (refine lavc_cond rfl (fun hc => absurd hc (by decide)) (fun _ => ?_))
      | (simp only [↓reduceIte, Nat.reduceEqDiff, reduceCtorEq]))
    refine And.intro (by simp) ?_
    simp (disch := first | omega | (simp only [go_sem, isRow, isFlat, Option.isSome_some]; done) | assumption | (simp only [ints_length, List.length_replicate, List.length_set, List.length_append, List.length_take, List.length_drop, List.length_cons, List.length_nil] <;> omega) | fail) only [go_sem, Nat.reduceAdd, Nat.reduceSub, reduceIte, Nat.reduceEqDiff, Int.reduceToNat, Int.reduceBEq, Int.reduceBNe, aret, aretL, aret1, aenv]
    (repeat (with_reducible refine And.intro (by first | omega | rfl | assumption | decide) ?_))
    exact end0 (NR.v _) rfl
  have d1 : decide (n < tFirst) = false := by rw [decide_eq_false_iff_not]; omega
  by_cases g2 : 253402297199 < n
  · have d2 : decide (n > 253402297199) = true := by rw [decide_eq_true_eq]; omega
    repeat (first
      | (with_reducible refine lops_step fun K hK => ?_; simp (disch := first | omega | (simp only [go_sem, isRow, isFlat, Option.isSome_some]; done) | assumption | (simp only [ints_length, List.length_replicate, List.length_set, List.length_append, List.length_take, List.length_drop, List.length_cons, List.length_nil] <;> omega) | fail) only [go_sem, Nat.reduceAdd, Nat.reduceSub, reduceIte, Nat.reduceEqDiff, Int.reduceToNat, Int.reduceBEq, Int.reduceBNe, d1, d2, w0]; (try (first | (refine And.intro (fun _ => ?_) (fun h => absurd h (by decide))) | (refine And.intro (fun h => absurd h (by decide)) (fun _ => ?_)))); (repeat (with_reducible refine And.intro (by first | omega | rfl | assumption | decide) ?_)); (first | (refine hK _ _ ?_) | (refine ⟨_, rfl, hK _ _ ?_⟩) | (refine Or.inl (hK _ _ ?_)) | (refine ⟨_, _, Or.inl (aw.go _), (by first | exact ⟨[], (List.append_nil _).symm⟩ | exact ⟨_, rfl⟩), hK _ _ ?_⟩) | (refine ⟨_, _, Or.inl (aw.go _), hK _ _ ?_⟩) | (refine ⟨_, _, Or.inl (aw.go _).weakQ, hK _ _ ?_⟩) | (refine ⟨_, _, Or.inl (First_p.go _), (by first | exact ⟨[], (List.append_nil _).symm⟩ | exact ⟨_, rfl⟩), hK _ _ ?_⟩) | (refine ⟨_, _, Or.inl (First_p.go _), hK _ _ ?_⟩) | (refine ⟨_, _, Or.inl (First_p.go _).weakQ, hK _ _ ?_⟩) | (refine ⟨_, _, Or.inl (Last_p.go _), (by first | exact ⟨[], (List.append_nil _).symm⟩ | exact ⟨_, rfl⟩), hK _ _ ?_⟩) | (refine ⟨_, _, Or.inl (Last_p.go _), hK _ _ ?_⟩) | (refine ⟨_, _, Or.inl (Last_p.go _).weakQ, hK _ _ ?_⟩)); clear hK K)
      | (with_reducible refine lops_nil ?_)
      | (with_reducible refine lavc_reg ?_)
      | (with_reducible refine lavc_seq ?_)
      | (with_reducible refine lavc_block ?_)
      | (with_reducible refine lavc_skip ?_)
      | (with_reducible refine lavc_exit ?_)
      | (with_reducible refine lavc_ret ?_)
      | (with_reducible refine lavcR_round ?_)
      | (refine lavc_cond rfl (fun _ => ?_) (fun hc => absurd hc (by decide)))
      | (refine lavc_cond rfl (fun hc => absurd hc (by decide)) (fun _ => ?_))
      | (simp only [↓reduceIte, Nat.reduceEqDiff, reduceCtorEq]))
    refine And.intro (by simp) ?_
    simp (disch := first | omega | (simp only [go_sem, isRow, isFlat, Option.isSome_some]; done) | assumption | (simp only [ints_length, List.length_replicate, List.length_set, List.length_append, List.length_take, List.length_drop, List.length_cons, List.length_nil] <;> omega) | fail) only [go_sem, Nat.reduceAdd, Nat.reduceSub, reduceIte, Nat.reduceEqDiff, Int.reduceToNat, Int.reduceBEq, Int.reduceBNe, aret, aretL, aret1, aenv]
    (repeat (with_reducible refine And.intro (by first | omega | rfl | assumption | decide) ?_))
    exact end0 (NR.v _) rfl
  have d2 : decide (n > 253402297199) = false := by rw [decide_eq_false_iff_not]; omega
  unfold tFirst at g1
  obtain ⟨t, ht, rfl⟩ := mom_of n (by unfold tFirst; omega) (by unfold tLast; omega)
  obtain ⟨t1, ht1, h1⟩ := mom_of (secs t + 1) (by unfold tFirst; omega) (by unfold tLast; omega)
  obtain ⟨t2, ht2, h2⟩ := mom_of (secs t + 60) (by unfold tFirst; omega) (by unfold tLast; omega)
  obtain ⟨t3, ht3, h3⟩ := mom_of (secs t + 3600) (by unfold tFirst; omega) (by unfold tLast; omega)
  have p0 := secs_parts ht
  have p2 := secs_parts ht2
  have p3 := secs_parts ht3
  have k1 := txt_gtr ht1 ht (by omega)
  have k2 := txt_gtr ht2 ht1 (by omega)
  have k3 := txt_gtr ht3 ht2 (by omega)
  have x2 : (strOf (txt t2)).extract 17 20 = (strOf (txt t)).extract 17 20 := by
    rw [txt_17, txt_17]
    have e3 : t2.s = t.s := by omega
    rw [e3]
  have x3 : (strOf (txt t3)).extract 14 20 = (strOf (txt t)).extract 14 20 := by
    rw [txt_14, txt_14]
    have e2 : t3.i = t.i := by omega
    have e3 : t3.s = t.s := by omega
    rw [e2, e3]
  have y0 := Text_p t ht
  have y1 := Text_p t1 ht1
  have y2 := Text_p t2 ht2
  have y3 := Text_p t3 ht3
  have w1 := i64z (secs t + 1) (by omega)
  have w2 := i64z (secs t + 60) (by omega)
  have w3 := i64z (secs t + 3600) (by omega)
  rw [h1] at y1
  rw [h2] at y2
  rw [h3] at y3
  have bs : ∀ s : ByteArray, (s.toList == s.toList) = true := fun s => by simp
  have q0 := txt_z t
  have q1 := txt_z t1
  have q2 := txt_z t2
  have q3 := txt_z t3
  obtain ⟨N, hN⟩ : ∃ N, secs t = N := ⟨_, rfl⟩
  rw [hN] at y0 y1 y2 y3 w1 w2 w3 d1 d2
  obtain ⟨A0, hA0⟩ : ∃ A, strOf (txt t) = A := ⟨_, rfl⟩
  obtain ⟨A1, hA1⟩ : ∃ A, strOf (txt t1) = A := ⟨_, rfl⟩
  obtain ⟨A2, hA2⟩ : ∃ A, strOf (txt t2) = A := ⟨_, rfl⟩
  obtain ⟨A3, hA3⟩ : ∃ A, strOf (txt t3) = A := ⟨_, rfl⟩
  rw [hA0] at y0 k1 x2 x3 q0
  rw [hA1] at y1 k1 k2 q1
  rw [hA2] at y2 k2 k3 x2 q2
  rw [hA3] at y3 k3 x3 q3
  rw [hN]
  repeat (first
    | (with_reducible refine lops_step fun K hK => ?_; simp (disch := first | omega | (simp only [go_sem, isRow, isFlat, Option.isSome_some]; done) | assumption | (simp only [ints_length, List.length_replicate, List.length_set, List.length_append, List.length_take, List.length_drop, List.length_cons, List.length_nil] <;> omega) | fail) only [go_sem, Nat.reduceAdd, Nat.reduceSub, reduceIte, Nat.reduceEqDiff, Int.reduceToNat, Int.reduceBEq, Int.reduceBNe, d1, d2, w0, w1, w2, w3, k1, k2, k3, x2, x3, q0, q1, q2, q3, z0, bs]; (try (first | (refine And.intro (fun _ => ?_) (fun h => absurd h (by decide))) | (refine And.intro (fun h => absurd h (by decide)) (fun _ => ?_)))); (repeat (with_reducible refine And.intro (by first | omega | rfl | assumption | decide) ?_)); (first | (refine hK _ _ ?_) | (refine ⟨_, rfl, hK _ _ ?_⟩) | (refine Or.inl (hK _ _ ?_)) | (refine ⟨_, _, Or.inl (aw.go _), (by first | exact ⟨[], (List.append_nil _).symm⟩ | exact ⟨_, rfl⟩), hK _ _ ?_⟩) | (refine ⟨_, _, Or.inl (aw.go _), hK _ _ ?_⟩) | (refine ⟨_, _, Or.inl (aw.go _).weakQ, hK _ _ ?_⟩) | (refine ⟨_, _, Or.inl (First_p.go _), (by first | exact ⟨[], (List.append_nil _).symm⟩ | exact ⟨_, rfl⟩), hK _ _ ?_⟩) | (refine ⟨_, _, Or.inl (First_p.go _), hK _ _ ?_⟩) | (refine ⟨_, _, Or.inl (First_p.go _).weakQ, hK _ _ ?_⟩) | (refine ⟨_, _, Or.inl (Last_p.go _), (by first | exact ⟨[], (List.append_nil _).symm⟩ | exact ⟨_, rfl⟩), hK _ _ ?_⟩) | (refine ⟨_, _, Or.inl (Last_p.go _), hK _ _ ?_⟩) | (refine ⟨_, _, Or.inl (Last_p.go _).weakQ, hK _ _ ?_⟩) | (refine ⟨_, _, Or.inl (y0.go _), (by first | exact ⟨[], (List.append_nil _).symm⟩ | exact ⟨_, rfl⟩), hK _ _ ?_⟩) | (refine ⟨_, _, Or.inl (y0.go _), hK _ _ ?_⟩) | (refine ⟨_, _, Or.inl (y0.go _).weakQ, hK _ _ ?_⟩) | (refine ⟨_, _, Or.inl (y1.go _), (by first | exact ⟨[], (List.append_nil _).symm⟩ | exact ⟨_, rfl⟩), hK _ _ ?_⟩) | (refine ⟨_, _, Or.inl (y1.go _), hK _ _ ?_⟩) | (refine ⟨_, _, Or.inl (y1.go _).weakQ, hK _ _ ?_⟩) | (refine ⟨_, _, Or.inl (y2.go _), (by first | exact ⟨[], (List.append_nil _).symm⟩ | exact ⟨_, rfl⟩), hK _ _ ?_⟩) | (refine ⟨_, _, Or.inl (y2.go _), hK _ _ ?_⟩) | (refine ⟨_, _, Or.inl (y2.go _).weakQ, hK _ _ ?_⟩) | (refine ⟨_, _, Or.inl (y3.go _), (by first | exact ⟨[], (List.append_nil _).symm⟩ | exact ⟨_, rfl⟩), hK _ _ ?_⟩) | (refine ⟨_, _, Or.inl (y3.go _), hK _ _ ?_⟩) | (refine ⟨_, _, Or.inl (y3.go _).weakQ, hK _ _ ?_⟩)); clear hK K)
    | (with_reducible refine lops_nil ?_)
    | (with_reducible refine lavc_reg ?_)
    | (with_reducible refine lavc_seq ?_)
    | (with_reducible refine lavc_block ?_)
    | (with_reducible refine lavc_skip ?_)
    | (with_reducible refine lavc_exit ?_)
    | (with_reducible refine lavc_ret ?_)
    | (with_reducible refine lavcR_round ?_)
    | (refine lavc_cond rfl (fun _ => ?_) (fun hc => absurd hc (by decide)))
    | (refine lavc_cond rfl (fun hc => absurd hc (by decide)) (fun _ => ?_))
    | (simp only [↓reduceIte, Nat.reduceEqDiff, reduceCtorEq]))
  refine And.intro (by simp) ?_
  simp (disch := first | omega | (simp only [go_sem, isRow, isFlat, Option.isSome_some]; done) | assumption | (simp only [ints_length, List.length_replicate, List.length_set, List.length_append, List.length_take, List.length_drop, List.length_cons, List.length_nil] <;> omega) | fail) only [go_sem, Nat.reduceAdd, Nat.reduceSub, reduceIte, Nat.reduceEqDiff, Int.reduceToNat, Int.reduceBEq, Int.reduceBNe, aret, aretL, aret1, aenv]
  (repeat (with_reducible refine And.intro (by first | omega | rfl | assumption | decide) ?_))
  exact end0 (NR.v _) rfl
end Go.Abs.S
