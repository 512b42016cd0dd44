/- hour: a text read, in the program. -/
import Derived.Test.YtjmalnoehmgenaaDoorHouK
import Derived.Test.YtjmalnoehmgenaaDoorHouH
namespace Go.Abs.S
attribute [local go_sem] lguard aopO aop nxL aenv toAV tput aLoad aStore vcells aBin aNilI aUn aAlloc aBox aBuild aBSlice afill aConv isIntT aappZ aCap aArr aMM aMake aSlice bnd3 bnd aFldAddr aFld aIdxAddr aIdx aExt aLen aCopy aEq0 bAV aUb aapp aappQ agh acont List.getD_cons_zero List.getD_cons_succ List.set_cons_zero List.set_cons_succ List.getElem?_cons_zero List.getElem?_cons_succ List.length_cons List.length_nil List.map_cons List.map_nil ints_length if_true if_false Bool.false_eq_true true_and and_true eq_self ne_eq not_false_eq_true not_true_eq_false beq_self_eq_true Nat.zero_add Nat.add_zero Nat.mul_one Nat.zero_mul Int.toNat_natCast List.toList_toArray List.all_cons List.all_nil AV.one Value.oneCell' Bool.and_true Bool.true_and forall_const true_implies false_implies implies_true Option.map_some Option.map_none Option.isSome_some Option.isSome_none imp_self rdP_flat rdP_row splice_one ints_set ints_get List.append_nil List.cons_append List.nil_append List.getElem?_toArray List.drop_zero ints_drop ints_take List.take_of_length_le splice_all ints_one Option.some.injEq Option.getD_some List.length_replicate zArr List.map_replicate rep_ints splice_intsR List.length_set List.length_append List.flatten_replicate_singleton rep_slice rep_string rep_bool rep_iface List.replicate_zero if_pos if_neg List.mapM_cons List.mapM_nil Option.pure_def Option.bind_eq_bind Option.bind_some Bool.true_eq_false Bool.not_false Bool.not_true get_concat set_concat
open Go.Proofs
open Go.Abs.H
set_option linter.unusedVariables false
set_option linter.unusedSimpArgs false
set_option maxRecDepth 100000
set_option maxHeartbeats 4000000
theorem str_beq (a b : ByteArray) : (a.toList == b.toList) = decide (a = b) := by
  rw [Bool.eq_iff_iff, beq_iff_eq, decide_eq_true_eq, ByteArray.toList_eq, ByteArray.toList_eq]
  exact ⟨fun h => WideShapes.bytes_inj h, fun h => by rw [h]⟩
theorem goodP_ok (t : Mom) (h0 : 0 ≤ t.h) (h1 : 0 ≤ t.i) (h2 : 0 ≤ t.s) : goodP t = decide t.ok := by
  unfold goodP
  rw [Bool.eq_iff_iff, decide_eq_true_eq, decide_eq_true_eq]
  unfold Mom.ok Date.ok
  constructor
  · rintro ⟨a, b, c, d, e, f, g⟩
    exact ⟨⟨c, d⟩, h0, e, h1, f, h2, g⟩
  · rintro ⟨⟨c, d⟩, _, e, _, f, _, g⟩
    have := mdays_pos (y := t.x.y) (m := t.x.m) (by omega)
    exact ⟨this.2.2.1, this.2.2.2, c, d, e, f, g⟩
theorem Read_bad (s : ByteArray) (hs : s.size ≤ 1000000) (h : ¬ Formed s) : PCall Tryd.prog glob 11 [.v (.string s)] (.tup [iv 0, iv 2]) := by
  refine PCall.of ctx.nr (by (repeat (refine List.forall_mem_cons.2 (And.intro (by first | exact NR.v _ | exact NR.agg (NR.ints _ _) | exact NR.vsl (NR.ints _ _) | exact NR.vptr (NR.ints _ _) | assumption) ?_))); exact fun _ h => absurd h List.not_mem_nil) (NR.t2 _ _) ?_
  refine lcall11 (by simp) 0 (Nat.le_refl _) ?_
  unfold lc11
  simp only [List.length_cons, List.length_nil, Nat.reduceAdd, Nat.reduceSub, List.replicate_succ, List.replicate_zero, List.cons_append, List.nil_append]
  obtain ⟨K, hK⟩ : ∃ K, min s.size 19 = K := ⟨_, rfl⟩
  have hf := mt (formed_iff s K hK.symm).2 h
  have hif : (if (s.size : Int) < 19 then (s.size : Int) else 19) = (K : Int) := by
    split <;> omega
  have hif2 : (if (19 : Int) < (s.size : Int) then (19 : Int) else (s.size : Int)) = (K : Int) := by
    split <;> omega
  have hz0 : (s.extract 0 K).size ≤ 1000000 := by rw [ext_size]; omega
  have hz1 : (s.extract K s.size).size ≤ 1000000 := by rw [ext_size]; omega
  have f0 := fits_p (s.extract 0 K) F19 hz0 (by decide)
  have f1 := fits_p (s.extract K s.size) FP hz1 (by decide)
  have f2 := fits_p (s.extract K s.size) FM hz1 (by decide)
  obtain ⟨B, hB⟩ : ∃ B, s.extract 0 K = B := ⟨_, rfl⟩
  obtain ⟨E, hE⟩ : ∃ E, s.extract K s.size = E := ⟨_, rfl⟩
  rw [hB] at f0 hf
  rw [hE] at f1 f2 hf
  by_cases g0 : Fits B F19
  · rw [decide_eq_true g0] at f0
    have g1 : ¬ (E = ⟨#[90]⟩) := fun e => hf ⟨g0, .inl e⟩
    have g2 : ¬ Fits E FP := fun e => hf ⟨g0, .inr (.inl e)⟩
    have g3 : ¬ Fits E FM := fun e => hf ⟨g0, .inr (.inr e)⟩
    rw [decide_eq_false g2] at f1
    rw [decide_eq_false g3] at f2
    have q : (E.toList == (⟨#[90]⟩ : ByteArray).toList) = false := by rw [str_beq, decide_eq_false g1]
    repeat (first
      | (with_reducible refine lops_step fun K hK => ?_; simp (disch := first | omega | (simp only [go_sem, isRow, isFlat, Option.isSome_some]; done) | assumption | (simp only [ints_length, List.length_replicate, List.length_set, List.length_append, List.length_take, List.length_drop, List.length_cons, List.length_nil] <;> omega) | fail) only [go_sem, Nat.reduceAdd, Nat.reduceSub, reduceIte, Nat.reduceEqDiff, Int.reduceToNat, Int.reduceBEq, Int.reduceBNe, hif, hif2, hB, hE, q]; (try (first | (refine And.intro (fun _ => ?_) (fun h => absurd h (by decide))) | (refine And.intro (fun h => absurd h (by decide)) (fun _ => ?_)))); (repeat (with_reducible refine And.intro (by first | omega | rfl | assumption | decide) ?_)); (first | (refine hK _ _ ?_) | (refine ⟨_, rfl, hK _ _ ?_⟩) | (refine Or.inl (hK _ _ ?_)) | (refine ⟨_, _, Or.inl (f0.go _), (by first | exact ⟨[], (List.append_nil _).symm⟩ | exact ⟨_, rfl⟩), hK _ _ ?_⟩) | (refine ⟨_, _, Or.inl (f0.go _), hK _ _ ?_⟩) | (refine ⟨_, _, Or.inl (f0.go _).weakQ, hK _ _ ?_⟩) | (refine ⟨_, _, Or.inl (f1.go _), (by first | exact ⟨[], (List.append_nil _).symm⟩ | exact ⟨_, rfl⟩), hK _ _ ?_⟩) | (refine ⟨_, _, Or.inl (f1.go _), hK _ _ ?_⟩) | (refine ⟨_, _, Or.inl (f1.go _).weakQ, hK _ _ ?_⟩) | (refine ⟨_, _, Or.inl (f2.go _), (by first | exact ⟨[], (List.append_nil _).symm⟩ | exact ⟨_, rfl⟩), hK _ _ ?_⟩) | (refine ⟨_, _, Or.inl (f2.go _), hK _ _ ?_⟩) | (refine ⟨_, _, Or.inl (f2.go _).weakQ, hK _ _ ?_⟩)); clear hK K)
      | (with_reducible refine lops_nil ?_)
      | (with_reducible refine lavc_reg ?_)
      | (with_reducible refine lavc_seq ?_)
      | (with_reducible refine lavc_block ?_)
      | (with_reducible refine lavc_skip ?_)
      | (with_reducible refine lavc_exit ?_)
      | (with_reducible refine lavc_ret ?_)
      | (with_reducible refine lavcR_round ?_)
      | (refine lavc_cond rfl (fun _ => ?_) (fun hc => absurd hc (by decide)))
      | (refine lavc_cond rfl (fun hc => absurd hc (by decide)) (fun _ => ?_))
      | (simp only [↓reduceIte, Nat.reduceEqDiff, reduceCtorEq]))
    refine And.intro (by simp) ?_
    simp (disch := first | omega | (simp only [go_sem, isRow, isFlat, Option.isSome_some]; done) | assumption | (simp only [ints_length, List.length_replicate, List.length_set, List.length_append, List.length_take, List.length_drop, List.length_cons, List.length_nil] <;> omega) | fail) only [go_sem, Nat.reduceAdd, Nat.reduceSub, reduceIte, Nat.reduceEqDiff, Int.reduceToNat, Int.reduceBEq, Int.reduceBNe, aret, aretL, aret1, aenv]
    (repeat (with_reducible refine And.intro (by first | omega | rfl | assumption | decide) ?_))
    exact end0 (NR.t2 _ _) rfl
  · rw [decide_eq_false g0] at f0
    repeat (first
      | (with_reducible refine lops_step fun K hK => ?_; simp (disch := first | omega | (simp only [go_sem, isRow, isFlat, Option.isSome_some]; done) | assumption | (simp only [ints_length, List.length_replicate, List.length_set, List.length_append, List.length_take, List.length_drop, List.length_cons, List.length_nil] <;> omega) | fail) only [go_sem, Nat.reduceAdd, Nat.reduceSub, reduceIte, Nat.reduceEqDiff, Int.reduceToNat, Int.reduceBEq, Int.reduceBNe, hif, hif2, hB, hE]; (try (first | (refine And.intro (fun _ => ?_) (fun h => absurd h (by decide))) | (refine And.intro (fun h => absurd h (by decide)) (fun _ => ?_)))); (repeat (with_reducible refine And.intro (by first | omega | rfl | assumption | decide) ?_)); (first | (refine hK _ _ ?_) | (refine ⟨_, rfl, hK _ _ ?_⟩) | (refine Or.inl (hK _ _ ?_)) | (refine ⟨_, _, Or.inl (f0.go _), (by first | exact ⟨[], (List.append_nil _).symm⟩ | exact ⟨_, rfl⟩), hK _ _ ?_⟩) | (refine ⟨_, _, Or.inl (f0.go _), hK _ _ ?_⟩) | (refine ⟨_, _, Or.inl (f0.go _).weakQ, hK _ _ ?_⟩)); clear hK K)
      | (with_reducible refine lops_nil ?_)
      | (with_reducible refine lavc_reg ?_)
      | (with_reducible refine lavc_seq ?_)
      | (with_reducible refine lavc_block ?_)
      | (with_reducible refine lavc_skip ?_)
      | (with_reducible refine lavc_exit ?_)
      | (with_reducible refine lavc_ret ?_)
      | (with_reducible refine lavcR_round ?_)
      | (refine lavc_cond rfl (fun _ => ?_) (fun hc => absurd hc (by decide)))
      | (refine lavc_cond rfl (fun hc => absurd hc (by decide)) (fun _ => ?_))
      | (simp only [↓reduceIte, Nat.reduceEqDiff, reduceCtorEq]))
    refine And.intro (by simp) ?_
    simp (disch := first | omega | (simp only [go_sem, isRow, isFlat, Option.isSome_some]; done) | assumption | (simp only [ints_length, List.length_replicate, List.length_set, List.length_append, List.length_take, List.length_drop, List.length_cons, List.length_nil] <;> omega) | fail) only [go_sem, Nat.reduceAdd, Nat.reduceSub, reduceIte, Nat.reduceEqDiff, Int.reduceToNat, Int.reduceBEq, Int.reduceBNe, aret, aretL, aret1, aenv]
    (repeat (with_reducible refine And.intro (by first | omega | rfl | assumption | decide) ?_))
    exact end0 (NR.t2 _ _) rfl
end Go.Abs.S
