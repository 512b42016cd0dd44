/- hour: the document's Read, in the program: twenty bytes that have the form. -/
import Derived.Test.YtjmalnoehmgenaaDoorHouSm
namespace Go.Abs.S
attribute [local go_sem] lguard aopO aop nxL aenv toAV tput aLoad aStore vcells aBin aNilI aUn aAlloc aBox aBuild aBSlice afill aConv isIntT aappZ aCap aArr aMM aMake aSlice bnd3 bnd aFldAddr aFld aIdxAddr aIdx aExt aLen aCopy aEq0 bAV aUb aapp aappQ agh acont List.getD_cons_zero List.getD_cons_succ List.set_cons_zero List.set_cons_succ List.getElem?_cons_zero List.getElem?_cons_succ List.length_cons List.length_nil List.map_cons List.map_nil ints_length if_true if_false Bool.false_eq_true true_and and_true eq_self ne_eq not_false_eq_true not_true_eq_false beq_self_eq_true Nat.zero_add Nat.add_zero Nat.mul_one Nat.zero_mul Int.toNat_natCast List.toList_toArray List.all_cons List.all_nil AV.one Value.oneCell' Bool.and_true Bool.true_and forall_const true_implies false_implies implies_true Option.map_some Option.map_none Option.isSome_some Option.isSome_none imp_self rdP_flat rdP_row splice_one ints_set ints_get List.append_nil List.cons_append List.nil_append List.getElem?_toArray List.drop_zero ints_drop ints_take List.take_of_length_le splice_all ints_one Option.some.injEq Option.getD_some List.length_replicate zArr List.map_replicate rep_ints splice_intsR List.length_set List.length_append List.flatten_replicate_singleton rep_slice rep_string rep_bool rep_iface List.replicate_zero if_pos if_neg List.mapM_cons List.mapM_nil Option.pure_def Option.bind_eq_bind Option.bind_some Bool.true_eq_false Bool.not_false Bool.not_true get_concat set_concat
open Go.Proofs
open Go.Abs.H
set_option linter.unusedVariables false
set_option linter.unusedSimpArgs false
set_option maxRecDepth 100000
set_option maxHeartbeats 8000000
theorem refRead_20f (s : ByteArray) (hs : s.size = 20) (hF : Formed s) : PCall Tryd.prog glob 12 [.v (.string s)] (.tup [iv (readP s).1, iv (readP s).2]) := by
  refine PCall.of ctx.nr (by (repeat (refine List.forall_mem_cons.2 (And.intro (by first | exact NR.v _ | exact NR.agg (NR.ints _ _) | exact NR.vsl (NR.ints _ _) | exact NR.vptr (NR.ints _ _) | assumption) ?_))); exact fun _ h => absurd h List.not_mem_nil) (NR.t2 _ _) ?_
  refine lcall12 (by simp) 0 (Nat.le_refl _) ?_
  unfold lc12
  simp only [List.length_cons, List.length_nil, Nat.reduceAdd, Nat.reduceSub, List.replicate_succ, List.replicate_zero, List.cons_append, List.nil_append]
  have er2 : ∀ p : Prop, ¬ p → (Formed s → p) → readP s = (0, 2) := fun p h1 h2 => by unfold readP; rw [if_pos (fun h => h1 (h2 h))]
  have q1 : (((s.size : Int) : Int) != 20) = false := by rw [bne_eq_false_iff_eq]; omega
  have p0 := ref4_p s (by omega)
  have p5 := ref2_p s 5 7 rfl (by omega)
  have p8 := ref2_p s 8 10 rfl (by omega)
  have p11 := ref2_p s 11 13 rfl (by omega)
  have p14 := ref2_p s 14 16 rfl (by omega)
  have p17 := ref2_p s 17 19 rfl (by omega)
  have hb4 : ((s.data.toList.getD 4 0).toNat : Int) = bt s 4 := rfl
  have hb7 : ((s.data.toList.getD 7 0).toNat : Int) = bt s 7 := rfl
  have hb10 : ((s.data.toList.getD 10 0).toNat : Int) = bt s 10 := rfl
  have hb13 : ((s.data.toList.getD 13 0).toNat : Int) = bt s 13 := rfl
  have hb16 : ((s.data.toList.getD 16 0).toNat : Int) = bt s 16 := rfl
  have hb19 : ((s.data.toList.getD 19 0).toNat : Int) = bt s 19 := rfl
  have m1 : decide ((-1 : Int) < 0) = true := by decide
  have hF0 := hF
  obtain ⟨hd, hcase⟩ := hF0
  obtain ⟨gD0, gs4, gD5, gs7, gD8, gs10, gD11, gs13, gD14, gs16, gD17⟩ := hd
  have vD0 := n4_in gD0
  rw [if_pos gD0] at p0
  have tD0 : decide (n4 s 0 < 0) = false := by rw [decide_eq_false_iff_not]; omega
  have vD5 := n2_in gD5
  rw [if_pos gD5] at p5
  have tD5 : decide (n2 s 5 < 0) = false := by rw [decide_eq_false_iff_not]; omega
  have vD8 := n2_in gD8
  rw [if_pos gD8] at p8
  have tD8 : decide (n2 s 8 < 0) = false := by rw [decide_eq_false_iff_not]; omega
  have vD11 := n2_in gD11
  rw [if_pos gD11] at p11
  have tD11 : decide (n2 s 11 < 0) = false := by rw [decide_eq_false_iff_not]; omega
  have vD14 := n2_in gD14
  rw [if_pos gD14] at p14
  have tD14 : decide (n2 s 14 < 0) = false := by rw [decide_eq_false_iff_not]; omega
  have vD17 := n2_in gD17
  rw [if_pos gD17] at p17
  have tD17 : decide (n2 s 17 < 0) = false := by rw [decide_eq_false_iff_not]; omega
  have ts4 : ((bt s 4 : Int) != 45) = false := by rw [bne_eq_false_iff_eq]; omega
  have ts7 : ((bt s 7 : Int) != 45) = false := by rw [bne_eq_false_iff_eq]; omega
  have ts10 : ((bt s 10 : Int) != 84) = false := by rw [bne_eq_false_iff_eq]; omega
  have ts13 : ((bt s 13 : Int) != 58) = false := by rw [bne_eq_false_iff_eq]; omega
  have ts16 : ((bt s 16 : Int) != 58) = false := by rw [bne_eq_false_iff_eq]; omega
  have g19 : bt s 19 = 90 := by rcases hcase with h | h <;> omega
  have z20 : ((s.size : Int) == 20) = true := by rw [beq_iff_eq]; omega
  have t19 : ((bt s 19 : Int) != 90) = false := by rw [bne_eq_false_iff_eq]; omega
  have hov : ¬ (s.size = 25 ∧ (23 < n2 s 20 ∨ 59 < n2 s 23)) := by omega
  have hsh : shf s = 0 := by unfold shf; rw [if_pos hs]
  have dp := refDays_p (n4 s 0) (n2 s 5)
  have er12 : ¬ (momS s).ok → readP s = (0, 12) := fun h => by unfold readP; rw [if_neg (not_not_intro hF), if_neg hov, if_pos h]
  by_cases k1 : n2 s 8 < 1
  · rw [er12 (fun h => by have := h.1.1; have : 1 ≤ n2 s 8 := this; omega)]
    have xk1 : decide (n2 s 8 < 1) = true := by rw [decide_eq_true_eq]; omega
    repeat (first
      | (with_reducible refine lops_step fun K hK => ?_; simp (disch := first | omega | (simp only [go_sem, isRow, isFlat, Option.isSome_some]; done) | assumption | (simp only [ints_length, List.length_replicate, List.length_set, List.length_append, List.length_take, List.length_drop, List.length_cons, List.length_nil] <;> omega) | fail) only [go_sem, Nat.reduceAdd, Nat.reduceSub, reduceIte, Nat.reduceEqDiff, Int.reduceToNat, Int.reduceBEq, Int.reduceBNe, xk1, q1, hb4, hb7, hb10, hb13, hb16, hb19, tD0, tD5, tD8, tD11, tD14, tD17, ts4, ts7, ts10, ts13, ts16, z20, t19]; (try (first | (refine And.intro (fun _ => ?_) (fun h => absurd h (by decide))) | (refine And.intro (fun h => absurd h (by decide)) (fun _ => ?_)))); (repeat (with_reducible refine And.intro (by first | omega | rfl | assumption | decide) ?_)); (first | (refine hK _ _ ?_) | (refine ⟨_, rfl, hK _ _ ?_⟩) | (refine Or.inl (hK _ _ ?_)) | (refine ⟨_, _, Or.inl (p0.go _), (by first | exact ⟨[], (List.append_nil _).symm⟩ | exact ⟨_, rfl⟩), hK _ _ ?_⟩) | (refine ⟨_, _, Or.inl (p0.go _), hK _ _ ?_⟩) | (refine ⟨_, _, Or.inl (p0.go _).weakQ, hK _ _ ?_⟩) | (refine ⟨_, _, Or.inl (p5.go _), (by first | exact ⟨[], (List.append_nil _).symm⟩ | exact ⟨_, rfl⟩), hK _ _ ?_⟩) | (refine ⟨_, _, Or.inl (p5.go _), hK _ _ ?_⟩) | (refine ⟨_, _, Or.inl (p5.go _).weakQ, hK _ _ ?_⟩) | (refine ⟨_, _, Or.inl (p8.go _), (by first | exact ⟨[], (List.append_nil _).symm⟩ | exact ⟨_, rfl⟩), hK _ _ ?_⟩) | (refine ⟨_, _, Or.inl (p8.go _), hK _ _ ?_⟩) | (refine ⟨_, _, Or.inl (p8.go _).weakQ, hK _ _ ?_⟩) | (refine ⟨_, _, Or.inl (p11.go _), (by first | exact ⟨[], (List.append_nil _).symm⟩ | exact ⟨_, rfl⟩), hK _ _ ?_⟩) | (refine ⟨_, _, Or.inl (p11.go _), hK _ _ ?_⟩) | (refine ⟨_, _, Or.inl (p11.go _).weakQ, hK _ _ ?_⟩) | (refine ⟨_, _, Or.inl (p14.go _), (by first | exact ⟨[], (List.append_nil _).symm⟩ | exact ⟨_, rfl⟩), hK _ _ ?_⟩) | (refine ⟨_, _, Or.inl (p14.go _), hK _ _ ?_⟩) | (refine ⟨_, _, Or.inl (p14.go _).weakQ, hK _ _ ?_⟩) | (refine ⟨_, _, Or.inl (p17.go _), (by first | exact ⟨[], (List.append_nil _).symm⟩ | exact ⟨_, rfl⟩), hK _ _ ?_⟩) | (refine ⟨_, _, Or.inl (p17.go _), hK _ _ ?_⟩) | (refine ⟨_, _, Or.inl (p17.go _).weakQ, hK _ _ ?_⟩) | (refine ⟨_, _, Or.inl (dp.go _), (by first | exact ⟨[], (List.append_nil _).symm⟩ | exact ⟨_, rfl⟩), hK _ _ ?_⟩) | (refine ⟨_, _, Or.inl (dp.go _), hK _ _ ?_⟩) | (refine ⟨_, _, Or.inl (dp.go _).weakQ, hK _ _ ?_⟩)); clear hK K)
      | (with_reducible refine lops_nil ?_)
      | (with_reducible refine lavc_reg ?_)
      | (with_reducible refine lavc_seq ?_)
      | (with_reducible refine lavc_block ?_)
      | (with_reducible refine lavc_skip ?_)
      | (with_reducible refine lavc_exit ?_)
      | (with_reducible refine lavc_ret ?_)
      | (with_reducible refine lavcR_round ?_)
      | (refine lavc_cond rfl (fun _ => ?_) (fun hc => absurd hc (by decide)))
      | (refine lavc_cond rfl (fun hc => absurd hc (by decide)) (fun _ => ?_))
      | (simp only [↓reduceIte, Nat.reduceEqDiff, reduceCtorEq]))
    refine And.intro (by simp) ?_
    simp (disch := first | omega | (simp only [go_sem, isRow, isFlat, Option.isSome_some]; done) | assumption | (simp only [ints_length, List.length_replicate, List.length_set, List.length_append, List.length_take, List.length_drop, List.length_cons, List.length_nil] <;> omega) | fail) only [go_sem, Nat.reduceAdd, Nat.reduceSub, reduceIte, Nat.reduceEqDiff, Int.reduceToNat, Int.reduceBEq, Int.reduceBNe, aret, aretL, aret1, aenv]
    (repeat (with_reducible refine And.intro (by first | omega | rfl | assumption | decide) ?_))
    exact end0 (NR.t2 _ _) rfl
  have xk1 : decide (n2 s 8 < 1) = false := by rw [decide_eq_false_iff_not]; omega
  by_cases k2 : mdays (n4 s 0) (n2 s 5) < n2 s 8
  · rw [er12 (fun h => by have := h.1.2; have : n2 s 8 ≤ mdays (n4 s 0) (n2 s 5) := this; omega)]
    have xk2 : decide (n2 s 8 > mdays (n4 s 0) (n2 s 5)) = true := by rw [decide_eq_true_eq]; omega
    repeat (first
      | (with_reducible refine lops_step fun K hK => ?_; simp (disch := first | omega | (simp only [go_sem, isRow, isFlat, Option.isSome_some]; done) | assumption | (simp only [ints_length, List.length_replicate, List.length_set, List.length_append, List.length_take, List.length_drop, List.length_cons, List.length_nil] <;> omega) | fail) only [go_sem, Nat.reduceAdd, Nat.reduceSub, reduceIte, Nat.reduceEqDiff, Int.reduceToNat, Int.reduceBEq, Int.reduceBNe, xk2, q1, hb4, hb7, hb10, hb13, hb16, hb19, tD0, tD5, tD8, tD11, tD14, tD17, ts4, ts7, ts10, ts13, ts16, z20, t19, xk1]; (try (first | (refine And.intro (fun _ => ?_) (fun h => absurd h (by decide))) | (refine And.intro (fun h => absurd h (by decide)) (fun _ => ?_)))); (repeat (with_reducible refine And.intro (by first | omega | rfl | assumption | decide) ?_)); (first | (refine hK _ _ ?_) | (refine ⟨_, rfl, hK _ _ ?_⟩) | (refine Or.inl (hK _ _ ?_)) | (refine ⟨_, _, Or.inl (p0.go _), (by first | exact ⟨[], (List.append_nil _).symm⟩ | exact ⟨_, rfl⟩), hK _ _ ?_⟩) | (refine ⟨_, _, Or.inl (p0.go _), hK _ _ ?_⟩) | (refine ⟨_, _, Or.inl (p0.go _).weakQ, hK _ _ ?_⟩) | (refine ⟨_, _, Or.inl (p5.go _), (by first | exact ⟨[], (List.append_nil _).symm⟩ | exact ⟨_, rfl⟩), hK _ _ ?_⟩) | (refine ⟨_, _, Or.inl (p5.go _), hK _ _ ?_⟩) | (refine ⟨_, _, Or.inl (p5.go _).weakQ, hK _ _ ?_⟩) | (refine ⟨_, _, Or.inl (p8.go _), (by first | exact ⟨[], (List.append_nil _).symm⟩ | exact ⟨_, rfl⟩), hK _ _ ?_⟩) | (refine ⟨_, _, Or.inl (p8.go _), hK _ _ ?_⟩) | (refine ⟨_, _, Or.inl (p8.go _).weakQ, hK _ _ ?_⟩) | (refine ⟨_, _, Or.inl (p11.go _), (by first | exact ⟨[], (List.append_nil _).symm⟩ | exact ⟨_, rfl⟩), hK _ _ ?_⟩) | (refine ⟨_, _, Or.inl (p11.go _), hK _ _ ?_⟩) | (refine ⟨_, _, Or.inl (p11.go _).weakQ, hK _ _ ?_⟩) | (refine ⟨_, _, Or.inl (p14.go _), (by first | exact ⟨[], (List.append_nil _).symm⟩ | exact ⟨_, rfl⟩), hK _ _ ?_⟩) | (refine ⟨_, _, Or.inl (p14.go _), hK _ _ ?_⟩) | (refine ⟨_, _, Or.inl (p14.go _).weakQ, hK _ _ ?_⟩) | (refine ⟨_, _, Or.inl (p17.go _), (by first | exact ⟨[], (List.append_nil _).symm⟩ | exact ⟨_, rfl⟩), hK _ _ ?_⟩) | (refine ⟨_, _, Or.inl (p17.go _), hK _ _ ?_⟩) | (refine ⟨_, _, Or.inl (p17.go _).weakQ, hK _ _ ?_⟩) | (refine ⟨_, _, Or.inl (dp.go _), (by first | exact ⟨[], (List.append_nil _).symm⟩ | exact ⟨_, rfl⟩), hK _ _ ?_⟩) | (refine ⟨_, _, Or.inl (dp.go _), hK _ _ ?_⟩) | (refine ⟨_, _, Or.inl (dp.go _).weakQ, hK _ _ ?_⟩)); clear hK K)
      | (with_reducible refine lops_nil ?_)
      | (with_reducible refine lavc_reg ?_)
      | (with_reducible refine lavc_seq ?_)
      | (with_reducible refine lavc_block ?_)
      | (with_reducible refine lavc_skip ?_)
      | (with_reducible refine lavc_exit ?_)
      | (with_reducible refine lavc_ret ?_)
      | (with_reducible refine lavcR_round ?_)
      | (refine lavc_cond rfl (fun _ => ?_) (fun hc => absurd hc (by decide)))
      | (refine lavc_cond rfl (fun hc => absurd hc (by decide)) (fun _ => ?_))
      | (simp only [↓reduceIte, Nat.reduceEqDiff, reduceCtorEq]))
    refine And.intro (by simp) ?_
    simp (disch := first | omega | (simp only [go_sem, isRow, isFlat, Option.isSome_some]; done) | assumption | (simp only [ints_length, List.length_replicate, List.length_set, List.length_append, List.length_take, List.length_drop, List.length_cons, List.length_nil] <;> omega) | fail) only [go_sem, Nat.reduceAdd, Nat.reduceSub, reduceIte, Nat.reduceEqDiff, Int.reduceToNat, Int.reduceBEq, Int.reduceBNe, aret, aretL, aret1, aenv]
    (repeat (with_reducible refine And.intro (by first | omega | rfl | assumption | decide) ?_))
    exact end0 (NR.t2 _ _) rfl
  have xk2 : decide (n2 s 8 > mdays (n4 s 0) (n2 s 5)) = false := by rw [decide_eq_false_iff_not]; omega
  by_cases k3 : 23 < n2 s 11
  · rw [er12 (fun h => by have := h.2.2.1; have : n2 s 11 ≤ 23 := this; omega)]
    have xk3 : decide (n2 s 11 > 23) = true := by rw [decide_eq_true_eq]; omega
    repeat (first
      | (with_reducible refine lops_step fun K hK => ?_; simp (disch := first | omega | (simp only [go_sem, isRow, isFlat, Option.isSome_some]; done) | assumption | (simp only [ints_length, List.length_replicate, List.length_set, List.length_append, List.length_take, List.length_drop, List.length_cons, List.length_nil] <;> omega) | fail) only [go_sem, Nat.reduceAdd, Nat.reduceSub, reduceIte, Nat.reduceEqDiff, Int.reduceToNat, Int.reduceBEq, Int.reduceBNe, xk3, q1, hb4, hb7, hb10, hb13, hb16, hb19, tD0, tD5, tD8, tD11, tD14, tD17, ts4, ts7, ts10, ts13, ts16, z20, t19, xk1, xk2]; (try (first | (refine And.intro (fun _ => ?_) (fun h => absurd h (by decide))) | (refine And.intro (fun h => absurd h (by decide)) (fun _ => ?_)))); (repeat (with_reducible refine And.intro (by first | omega | rfl | assumption | decide) ?_)); (first | (refine hK _ _ ?_) | (refine ⟨_, rfl, hK _ _ ?_⟩) | (refine Or.inl (hK _ _ ?_)) | (refine ⟨_, _, Or.inl (p0.go _), (by first | exact ⟨[], (List.append_nil _).symm⟩ | exact ⟨_, rfl⟩), hK _ _ ?_⟩) | (refine ⟨_, _, Or.inl (p0.go _), hK _ _ ?_⟩) | (refine ⟨_, _, Or.inl (p0.go _).weakQ, hK _ _ ?_⟩) | (refine ⟨_, _, Or.inl (p5.go _), (by first | exact ⟨[], (List.append_nil _).symm⟩ | exact ⟨_, rfl⟩), hK _ _ ?_⟩) | (refine ⟨_, _, Or.inl (p5.go _), hK _ _ ?_⟩) | (refine ⟨_, _, Or.inl (p5.go _).weakQ, hK _ _ ?_⟩) | (refine ⟨_, _, Or.inl (p8.go _), (by first | exact ⟨[], (List.append_nil _).symm⟩ | exact ⟨_, rfl⟩), hK _ _ ?_⟩) | (refine ⟨_, _, Or.inl (p8.go _), hK _ _ ?_⟩) | (refine ⟨_, _, Or.inl (p8.go _).weakQ, hK _ _ ?_⟩) | (refine ⟨_, _, Or.inl (p11.go _), (by first | exact ⟨[], (List.append_nil _).symm⟩ | exact ⟨_, rfl⟩), hK _ _ ?_⟩) | (refine ⟨_, _, Or.inl (p11.go _), hK _ _ ?_⟩) | (refine ⟨_, _, Or.inl (p11.go _).weakQ, hK _ _ ?_⟩) | (refine ⟨_, _, Or.inl (p14.go _), (by first | exact ⟨[], (List.append_nil _).symm⟩ | exact ⟨_, rfl⟩), hK _ _ ?_⟩) | (refine ⟨_, _, Or.inl (p14.go _), hK _ _ ?_⟩) | (refine ⟨_, _, Or.inl (p14.go _).weakQ, hK _ _ ?_⟩) | (refine ⟨_, _, Or.inl (p17.go _), (by first | exact ⟨[], (List.append_nil _).symm⟩ | exact ⟨_, rfl⟩), hK _ _ ?_⟩) | (refine ⟨_, _, Or.inl (p17.go _), hK _ _ ?_⟩) | (refine ⟨_, _, Or.inl (p17.go _).weakQ, hK _ _ ?_⟩) | (refine ⟨_, _, Or.inl (dp.go _), (by first | exact ⟨[], (List.append_nil _).symm⟩ | exact ⟨_, rfl⟩), hK _ _ ?_⟩) | (refine ⟨_, _, Or.inl (dp.go _), hK _ _ ?_⟩) | (refine ⟨_, _, Or.inl (dp.go _).weakQ, hK _ _ ?_⟩)); clear hK K)
      | (with_reducible refine lops_nil ?_)
      | (with_reducible refine lavc_reg ?_)
      | (with_reducible refine lavc_seq ?_)
      | (with_reducible refine lavc_block ?_)
      | (with_reducible refine lavc_skip ?_)
      | (with_reducible refine lavc_exit ?_)
      | (with_reducible refine lavc_ret ?_)
      | (with_reducible refine lavcR_round ?_)
      | (refine lavc_cond rfl (fun _ => ?_) (fun hc => absurd hc (by decide)))
      | (refine lavc_cond rfl (fun hc => absurd hc (by decide)) (fun _ => ?_))
      | (simp only [↓reduceIte, Nat.reduceEqDiff, reduceCtorEq]))
    refine And.intro (by simp) ?_
    simp (disch := first | omega | (simp only [go_sem, isRow, isFlat, Option.isSome_some]; done) | assumption | (simp only [ints_length, List.length_replicate, List.length_set, List.length_append, List.length_take, List.length_drop, List.length_cons, List.length_nil] <;> omega) | fail) only [go_sem, Nat.reduceAdd, Nat.reduceSub, reduceIte, Nat.reduceEqDiff, Int.reduceToNat, Int.reduceBEq, Int.reduceBNe, aret, aretL, aret1, aenv]
    (repeat (with_reducible refine And.intro (by first | omega | rfl | assumption | decide) ?_))
    exact end0 (NR.t2 _ _) rfl
  have xk3 : decide (n2 s 11 > 23) = false := by rw [decide_eq_false_iff_not]; omega
  by_cases k4 : 59 < n2 s 14
  · rw [er12 (fun h => by have := h.2.2.2.2.1; have : n2 s 14 ≤ 59 := this; omega)]
    have xk4 : decide (n2 s 14 > 59) = true := by rw [decide_eq_true_eq]; omega
    repeat (first
      | (with_reducible refine lops_step fun K hK => ?_; simp (disch := first | omega | (simp only [go_sem, isRow, isFlat, Option.isSome_some]; done) | assumption | (simp only [ints_length, List.length_replicate, List.length_set, List.length_append, List.length_take, List.length_drop, List.length_cons, List.length_nil] <;> omega) | fail) only [go_sem, Nat.reduceAdd, Nat.reduceSub, reduceIte, Nat.reduceEqDiff, Int.reduceToNat, Int.reduceBEq, Int.reduceBNe, xk4, q1, hb4, hb7, hb10, hb13, hb16, hb19, tD0, tD5, tD8, tD11, tD14, tD17, ts4, ts7, ts10, ts13, ts16, z20, t19, xk1, xk2, xk3]; (try (first | (refine And.intro (fun _ => ?_) (fun h => absurd h (by decide))) | (refine And.intro (fun h => absurd h (by decide)) (fun _ => ?_)))); (repeat (with_reducible refine And.intro (by first | omega | rfl | assumption | decide) ?_)); (first | (refine hK _ _ ?_) | (refine ⟨_, rfl, hK _ _ ?_⟩) | (refine Or.inl (hK _ _ ?_)) | (refine ⟨_, _, Or.inl (p0.go _), (by first | exact ⟨[], (List.append_nil _).symm⟩ | exact ⟨_, rfl⟩), hK _ _ ?_⟩) | (refine ⟨_, _, Or.inl (p0.go _), hK _ _ ?_⟩) | (refine ⟨_, _, Or.inl (p0.go _).weakQ, hK _ _ ?_⟩) | (refine ⟨_, _, Or.inl (p5.go _), (by first | exact ⟨[], (List.append_nil _).symm⟩ | exact ⟨_, rfl⟩), hK _ _ ?_⟩) | (refine ⟨_, _, Or.inl (p5.go _), hK _ _ ?_⟩) | (refine ⟨_, _, Or.inl (p5.go _).weakQ, hK _ _ ?_⟩) | (refine ⟨_, _, Or.inl (p8.go _), (by first | exact ⟨[], (List.append_nil _).symm⟩ | exact ⟨_, rfl⟩), hK _ _ ?_⟩) | (refine ⟨_, _, Or.inl (p8.go _), hK _ _ ?_⟩) | (refine ⟨_, _, Or.inl (p8.go _).weakQ, hK _ _ ?_⟩) | (refine ⟨_, _, Or.inl (p11.go _), (by first | exact ⟨[], (List.append_nil _).symm⟩ | exact ⟨_, rfl⟩), hK _ _ ?_⟩) | (refine ⟨_, _, Or.inl (p11.go _), hK _ _ ?_⟩) | (refine ⟨_, _, Or.inl (p11.go _).weakQ, hK _ _ ?_⟩) | (refine ⟨_, _, Or.inl (p14.go _), (by first | exact ⟨[], (List.append_nil _).symm⟩ | exact ⟨_, rfl⟩), hK _ _ ?_⟩) | (refine ⟨_, _, Or.inl (p14.go _), hK _ _ ?_⟩) | (refine ⟨_, _, Or.inl (p14.go _).weakQ, hK _ _ ?_⟩) | (refine ⟨_, _, Or.inl (p17.go _), (by first | exact ⟨[], (List.append_nil _).symm⟩ | exact ⟨_, rfl⟩), hK _ _ ?_⟩) | (refine ⟨_, _, Or.inl (p17.go _), hK _ _ ?_⟩) | (refine ⟨_, _, Or.inl (p17.go _).weakQ, hK _ _ ?_⟩) | (refine ⟨_, _, Or.inl (dp.go _), (by first | exact ⟨[], (List.append_nil _).symm⟩ | exact ⟨_, rfl⟩), hK _ _ ?_⟩) | (refine ⟨_, _, Or.inl (dp.go _), hK _ _ ?_⟩) | (refine ⟨_, _, Or.inl (dp.go _).weakQ, hK _ _ ?_⟩)); clear hK K)
      | (with_reducible refine lops_nil ?_)
      | (with_reducible refine lavc_reg ?_)
      | (with_reducible refine lavc_seq ?_)
      | (with_reducible refine lavc_block ?_)
      | (with_reducible refine lavc_skip ?_)
      | (with_reducible refine lavc_exit ?_)
      | (with_reducible refine lavc_ret ?_)
      | (with_reducible refine lavcR_round ?_)
      | (refine lavc_cond rfl (fun _ => ?_) (fun hc => absurd hc (by decide)))
      | (refine lavc_cond rfl (fun hc => absurd hc (by decide)) (fun _ => ?_))
      | (simp only [↓reduceIte, Nat.reduceEqDiff, reduceCtorEq]))
    refine And.intro (by simp) ?_
    simp (disch := first | omega | (simp only [go_sem, isRow, isFlat, Option.isSome_some]; done) | assumption | (simp only [ints_length, List.length_replicate, List.length_set, List.length_append, List.length_take, List.length_drop, List.length_cons, List.length_nil] <;> omega) | fail) only [go_sem, Nat.reduceAdd, Nat.reduceSub, reduceIte, Nat.reduceEqDiff, Int.reduceToNat, Int.reduceBEq, Int.reduceBNe, aret, aretL, aret1, aenv]
    (repeat (with_reducible refine And.intro (by first | omega | rfl | assumption | decide) ?_))
    exact end0 (NR.t2 _ _) rfl
  have xk4 : decide (n2 s 14 > 59) = false := by rw [decide_eq_false_iff_not]; omega
  by_cases k5 : 59 < n2 s 17
  · rw [er12 (fun h => by have := h.2.2.2.2.2.2; have : n2 s 17 ≤ 59 := this; omega)]
    have xk5 : decide (n2 s 17 > 59) = true := by rw [decide_eq_true_eq]; omega
    repeat (first
      | (with_reducible refine lops_step fun K hK => ?_; simp (disch := first | omega | (simp only [go_sem, isRow, isFlat, Option.isSome_some]; done) | assumption | (simp only [ints_length, List.length_replicate, List.length_set, List.length_append, List.length_take, List.length_drop, List.length_cons, List.length_nil] <;> omega) | fail) only [go_sem, Nat.reduceAdd, Nat.reduceSub, reduceIte, Nat.reduceEqDiff, Int.reduceToNat, Int.reduceBEq, Int.reduceBNe, xk5, q1, hb4, hb7, hb10, hb13, hb16, hb19, tD0, tD5, tD8, tD11, tD14, tD17, ts4, ts7, ts10, ts13, ts16, z20, t19, xk1, xk2, xk3, xk4]; (try (first | (refine And.intro (fun _ => ?_) (fun h => absurd h (by decide))) | (refine And.intro (fun h => absurd h (by decide)) (fun _ => ?_)))); (repeat (with_reducible refine And.intro (by first | omega | rfl | assumption | decide) ?_)); (first | (refine hK _ _ ?_) | (refine ⟨_, rfl, hK _ _ ?_⟩) | (refine Or.inl (hK _ _ ?_)) | (refine ⟨_, _, Or.inl (p0.go _), (by first | exact ⟨[], (List.append_nil _).symm⟩ | exact ⟨_, rfl⟩), hK _ _ ?_⟩) | (refine ⟨_, _, Or.inl (p0.go _), hK _ _ ?_⟩) | (refine ⟨_, _, Or.inl (p0.go _).weakQ, hK _ _ ?_⟩) | (refine ⟨_, _, Or.inl (p5.go _), (by first | exact ⟨[], (List.append_nil _).symm⟩ | exact ⟨_, rfl⟩), hK _ _ ?_⟩) | (refine ⟨_, _, Or.inl (p5.go _), hK _ _ ?_⟩) | (refine ⟨_, _, Or.inl (p5.go _).weakQ, hK _ _ ?_⟩) | (refine ⟨_, _, Or.inl (p8.go _), (by first | exact ⟨[], (List.append_nil _).symm⟩ | exact ⟨_, rfl⟩), hK _ _ ?_⟩) | (refine ⟨_, _, Or.inl (p8.go _), hK _ _ ?_⟩) | (refine ⟨_, _, Or.inl (p8.go _).weakQ, hK _ _ ?_⟩) | (refine ⟨_, _, Or.inl (p11.go _), (by first | exact ⟨[], (List.append_nil _).symm⟩ | exact ⟨_, rfl⟩), hK _ _ ?_⟩) | (refine ⟨_, _, Or.inl (p11.go _), hK _ _ ?_⟩) | (refine ⟨_, _, Or.inl (p11.go _).weakQ, hK _ _ ?_⟩) | (refine ⟨_, _, Or.inl (p14.go _), (by first | exact ⟨[], (List.append_nil _).symm⟩ | exact ⟨_, rfl⟩), hK _ _ ?_⟩) | (refine ⟨_, _, Or.inl (p14.go _), hK _ _ ?_⟩) | (refine ⟨_, _, Or.inl (p14.go _).weakQ, hK _ _ ?_⟩) | (refine ⟨_, _, Or.inl (p17.go _), (by first | exact ⟨[], (List.append_nil _).symm⟩ | exact ⟨_, rfl⟩), hK _ _ ?_⟩) | (refine ⟨_, _, Or.inl (p17.go _), hK _ _ ?_⟩) | (refine ⟨_, _, Or.inl (p17.go _).weakQ, hK _ _ ?_⟩) | (refine ⟨_, _, Or.inl (dp.go _), (by first | exact ⟨[], (List.append_nil _).symm⟩ | exact ⟨_, rfl⟩), hK _ _ ?_⟩) | (refine ⟨_, _, Or.inl (dp.go _), hK _ _ ?_⟩) | (refine ⟨_, _, Or.inl (dp.go _).weakQ, hK _ _ ?_⟩)); clear hK K)
      | (with_reducible refine lops_nil ?_)
      | (with_reducible refine lavc_reg ?_)
      | (with_reducible refine lavc_seq ?_)
      | (with_reducible refine lavc_block ?_)
      | (with_reducible refine lavc_skip ?_)
      | (with_reducible refine lavc_exit ?_)
      | (with_reducible refine lavc_ret ?_)
      | (with_reducible refine lavcR_round ?_)
      | (refine lavc_cond rfl (fun _ => ?_) (fun hc => absurd hc (by decide)))
      | (refine lavc_cond rfl (fun hc => absurd hc (by decide)) (fun _ => ?_))
      | (simp only [↓reduceIte, Nat.reduceEqDiff, reduceCtorEq]))
    refine And.intro (by simp) ?_
    simp (disch := first | omega | (simp only [go_sem, isRow, isFlat, Option.isSome_some]; done) | assumption | (simp only [ints_length, List.length_replicate, List.length_set, List.length_append, List.length_take, List.length_drop, List.length_cons, List.length_nil] <;> omega) | fail) only [go_sem, Nat.reduceAdd, Nat.reduceSub, reduceIte, Nat.reduceEqDiff, Int.reduceToNat, Int.reduceBEq, Int.reduceBNe, aret, aretL, aret1, aenv]
    (repeat (with_reducible refine And.intro (by first | omega | rfl | assumption | decide) ?_))
    exact end0 (NR.t2 _ _) rfl
  have xk5 : decide (n2 s 17 > 59) = false := by rw [decide_eq_false_iff_not]; omega
  have hok : (momS s).ok := ⟨⟨by show 1 ≤ n2 s 8; omega, by show n2 s 8 ≤ mdays (n4 s 0) (n2 s 5); omega⟩, by show 0 ≤ n2 s 11 ∧ n2 s 11 ≤ 23 ∧ 0 ≤ n2 s 14 ∧ n2 s 14 ≤ 59 ∧ 0 ≤ n2 s 17 ∧ n2 s 17 ≤ 59; omega⟩
  have sp := Seconds_p (momS s) hok
  have esp : [iv (momS s).x.y, iv (momS s).x.m, iv (momS s).x.d, iv (momS s).h, iv (momS s).i, iv (momS s).s] = [iv (n4 s 0), iv (n2 s 5), iv (n2 s 8), iv (n2 s 11), iv (n2 s 14), iv (n2 s 17)] := rfl
  rw [esp] at sp
  have hsi := secs_in hok
  unfold tFirst tLast at hsi
  have eF : tFirst = -62167219200 := rfl
  have eL : tLast = 253402300799 := rfl
  have er : readP s = if ¬ (tFirst ≤ secs (momS s) + 0 ∧ secs (momS s) + 0 ≤ tLast) then (0, 12) else (secs (momS s) + 0, 0) := by unfold readP; rw [if_neg (not_not_intro hF), if_neg hov, if_neg (not_not_intro hok), hsh]
  rw [er]
  have w3 := i64z (secs (momS s) + 0) (by omega)
  obtain ⟨N, hN⟩ : ∃ N, secs (momS s) = N := ⟨_, rfl⟩
  rw [hN] at sp w3 ⊢
  by_cases z1 : N + 0 < tFirst
  · exfalso; omega
  have y1 : decide (N + 0 < tFirst) = false := by rw [decide_eq_false_iff_not]; omega
  by_cases z2 : tLast < N + 0
  · exfalso; omega
  have y2 : decide (N + 0 > tLast) = false := by rw [decide_eq_false_iff_not]; omega
  rw [if_neg (by omega)]
  repeat (first
    | (with_reducible refine lops_step fun K hK => ?_; simp (disch := first | omega | (simp only [go_sem, isRow, isFlat, Option.isSome_some]; done) | assumption | (simp only [ints_length, List.length_replicate, List.length_set, List.length_append, List.length_take, List.length_drop, List.length_cons, List.length_nil] <;> omega) | fail) only [go_sem, Nat.reduceAdd, Nat.reduceSub, reduceIte, Nat.reduceEqDiff, Int.reduceToNat, Int.reduceBEq, Int.reduceBNe, y1, y2, q1, hb4, hb7, hb10, hb13, hb16, hb19, tD0, tD5, tD8, tD11, tD14, tD17, ts4, ts7, ts10, ts13, ts16, z20, t19, xk1, xk2, xk3, xk4, xk5, w3]; (try (first | (refine And.intro (fun _ => ?_) (fun h => absurd h (by decide))) | (refine And.intro (fun h => absurd h (by decide)) (fun _ => ?_)))); (repeat (with_reducible refine And.intro (by first | omega | rfl | assumption | decide) ?_)); (first | (refine hK _ _ ?_) | (refine ⟨_, rfl, hK _ _ ?_⟩) | (refine Or.inl (hK _ _ ?_)) | (refine ⟨_, _, Or.inl (p0.go _), (by first | exact ⟨[], (List.append_nil _).symm⟩ | exact ⟨_, rfl⟩), hK _ _ ?_⟩) | (refine ⟨_, _, Or.inl (p0.go _), hK _ _ ?_⟩) | (refine ⟨_, _, Or.inl (p0.go _).weakQ, hK _ _ ?_⟩) | (refine ⟨_, _, Or.inl (p5.go _), (by first | exact ⟨[], (List.append_nil _).symm⟩ | exact ⟨_, rfl⟩), hK _ _ ?_⟩) | (refine ⟨_, _, Or.inl (p5.go _), hK _ _ ?_⟩) | (refine ⟨_, _, Or.inl (p5.go _).weakQ, hK _ _ ?_⟩) | (refine ⟨_, _, Or.inl (p8.go _), (by first | exact ⟨[], (List.append_nil _).symm⟩ | exact ⟨_, rfl⟩), hK _ _ ?_⟩) | (refine ⟨_, _, Or.inl (p8.go _), hK _ _ ?_⟩) | (refine ⟨_, _, Or.inl (p8.go _).weakQ, hK _ _ ?_⟩) | (refine ⟨_, _, Or.inl (p11.go _), (by first | exact ⟨[], (List.append_nil _).symm⟩ | exact ⟨_, rfl⟩), hK _ _ ?_⟩) | (refine ⟨_, _, Or.inl (p11.go _), hK _ _ ?_⟩) | (refine ⟨_, _, Or.inl (p11.go _).weakQ, hK _ _ ?_⟩) | (refine ⟨_, _, Or.inl (p14.go _), (by first | exact ⟨[], (List.append_nil _).symm⟩ | exact ⟨_, rfl⟩), hK _ _ ?_⟩) | (refine ⟨_, _, Or.inl (p14.go _), hK _ _ ?_⟩) | (refine ⟨_, _, Or.inl (p14.go _).weakQ, hK _ _ ?_⟩) | (refine ⟨_, _, Or.inl (p17.go _), (by first | exact ⟨[], (List.append_nil _).symm⟩ | exact ⟨_, rfl⟩), hK _ _ ?_⟩) | (refine ⟨_, _, Or.inl (p17.go _), hK _ _ ?_⟩) | (refine ⟨_, _, Or.inl (p17.go _).weakQ, hK _ _ ?_⟩) | (refine ⟨_, _, Or.inl (dp.go _), (by first | exact ⟨[], (List.append_nil _).symm⟩ | exact ⟨_, rfl⟩), hK _ _ ?_⟩) | (refine ⟨_, _, Or.inl (dp.go _), hK _ _ ?_⟩) | (refine ⟨_, _, Or.inl (dp.go _).weakQ, hK _ _ ?_⟩) | (refine ⟨_, _, Or.inl (sp.go _), (by first | exact ⟨[], (List.append_nil _).symm⟩ | exact ⟨_, rfl⟩), hK _ _ ?_⟩) | (refine ⟨_, _, Or.inl (sp.go _), hK _ _ ?_⟩) | (refine ⟨_, _, Or.inl (sp.go _).weakQ, hK _ _ ?_⟩) | (refine ⟨_, _, Or.inl (First_p.go _), (by first | exact ⟨[], (List.append_nil _).symm⟩ | exact ⟨_, rfl⟩), hK _ _ ?_⟩) | (refine ⟨_, _, Or.inl (First_p.go _), hK _ _ ?_⟩) | (refine ⟨_, _, Or.inl (First_p.go _).weakQ, hK _ _ ?_⟩) | (refine ⟨_, _, Or.inl (Last_p.go _), (by first | exact ⟨[], (List.append_nil _).symm⟩ | exact ⟨_, rfl⟩), hK _ _ ?_⟩) | (refine ⟨_, _, Or.inl (Last_p.go _), hK _ _ ?_⟩) | (refine ⟨_, _, Or.inl (Last_p.go _).weakQ, hK _ _ ?_⟩)); clear hK K)
    | (with_reducible refine lops_nil ?_)
    | (with_reducible refine lavc_reg ?_)
    | (with_reducible refine lavc_seq ?_)
    | (with_reducible refine lavc_block ?_)
    | (with_reducible refine lavc_skip ?_)
    | (with_reducible refine lavc_exit ?_)
    | (with_reducible refine lavc_ret ?_)
    | (with_reducible refine lavcR_round ?_)
    | (refine lavc_cond rfl (fun _ => ?_) (fun hc => absurd hc (by decide)))
    | (refine lavc_cond rfl (fun hc => absurd hc (by decide)) (fun _ => ?_))
    | (simp only [↓reduceIte, Nat.reduceEqDiff, reduceCtorEq]))
  refine And.intro (by simp) ?_
  simp (disch := first | omega | (simp only [go_sem, isRow, isFlat, Option.isSome_some]; done) | assumption | (simp only [ints_length, List.length_replicate, List.length_set, List.length_append, List.length_take, List.length_drop, List.length_cons, List.length_nil] <;> omega) | fail) only [go_sem, Nat.reduceAdd, Nat.reduceSub, reduceIte, Nat.reduceEqDiff, Int.reduceToNat, Int.reduceBEq, Int.reduceBNe, aret, aretL, aret1, aenv]
  (repeat (with_reducible refine And.intro (by first | omega | rfl | assumption | decide) ?_))
  exact end0 (NR.t2 _ _) rfl
end Go.Abs.S
