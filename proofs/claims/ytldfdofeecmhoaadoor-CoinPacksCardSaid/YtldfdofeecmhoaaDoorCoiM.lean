/- CoinUnpacks. -/
import Derived.Test.YtldfdofeecmhoaaDoorCoiL
namespace Go.Abs.S
attribute [local go_sem] lguard aopO aop nxL aenv toAV tput aLoad aStore vcells aBin aNilI aUn aAlloc aBox aBuild aBSlice afill aConv isIntT aappZ aCap aArr aMM aMake aSlice bnd3 bnd aFldAddr aFld aIdxAddr aIdx aExt aLen aCopy aEq0 bAV aUb aapp aappQ agh acont List.getD_cons_zero List.getD_cons_succ List.set_cons_zero List.set_cons_succ List.getElem?_cons_zero List.getElem?_cons_succ List.length_cons List.length_nil List.map_cons List.map_nil ints_length if_true if_false Bool.false_eq_true true_and and_true eq_self ne_eq not_false_eq_true not_true_eq_false beq_self_eq_true Nat.zero_add Nat.add_zero Nat.mul_one Nat.zero_mul Int.toNat_natCast List.toList_toArray List.all_cons List.all_nil AV.one Value.oneCell' Bool.and_true Bool.true_and forall_const true_implies false_implies implies_true Option.map_some Option.map_none Option.isSome_some Option.isSome_none imp_self rdP_flat rdP_row splice_one ints_set ints_get List.append_nil List.cons_append List.nil_append List.getElem?_toArray List.drop_zero ints_drop ints_take List.take_of_length_le splice_all ints_one Option.some.injEq Option.getD_some List.length_replicate zArr List.map_replicate rep_ints splice_intsR List.length_set List.length_append List.flatten_replicate_singleton rep_slice rep_string rep_bool rep_iface List.replicate_zero if_pos if_neg List.mapM_cons List.mapM_nil Option.pure_def Option.bind_eq_bind Option.bind_some Bool.true_eq_false Bool.not_false Bool.not_true get_concat set_concat
open Go.Proofs
set_option linter.unusedVariables false
set_option linter.unusedSimpArgs false
set_option maxRecDepth 100000
set_option maxHeartbeats 4000000
theorem flat_ge : ∀ (rs : List (List Int)), rs.length ≤ (rs.flatMap fun r => leN 8 r.length ++ r).length ∧ ∀ r ∈ rs, r.length ≤ (rs.flatMap fun r => leN 8 r.length ++ r).length
  | [] => by simp
  | a :: l => by
    obtain ⟨h1, h2⟩ := flat_ge l
    rw [List.flatMap_cons, List.length_append, List.length_append, leN_length, List.length_cons]
    refine ⟨by omega, fun r hr => ?_⟩
    rcases List.mem_cons.1 hr with rfl | hr
    · omega
    · have := h2 r hr
      omega
theorem rws_rows (rs : List (List Int)) : Rws (rows .u8 rs) rs := by
  refine ⟨rows_length _ _, fun k hk => ⟨none, ?_⟩⟩
  simp [rows, List.getD_eq_getElem?_getD, hk]
theorem unp_err {B : List Int} {rs : List (List Int)} {c : Nat} (h : unp B = (rs, c)) (hc : c ≠ 0) : rs = [] := by
  unfold unp at h
  split at h
  · cases h; rfl
  · split at h
    · cases h; rfl
    · split at h
      · cases h; rfl
      · cases h; exact absurd rfl hc
theorem unpacks_p (B : List Int) (hB : By B) :
    PCall Tryd.prog glob 7 [.vsl B.length (ints .u8 B) none] (.v (.bool true)) := by
  refine PCall.of ctx.nr (by (repeat (refine List.forall_mem_cons.2 (And.intro (by first | exact NR.v _ | exact NR.agg (NR.ints _ _) | exact NR.vsl (NR.ints _ _) | exact NR.vptr (NR.ints _ _) | assumption) ?_))); exact fun _ h => absurd h List.not_mem_nil) (NR.v _) ?_
  refine lcall7 (by simp) 0 (Nat.le_refl _) ?_
  unfold lc7
  simp only [List.length_cons, List.length_nil, Nat.reduceAdd, Nat.reduceSub, List.replicate_succ, List.replicate_zero, List.cons_append, List.nil_append]
  have aw := awake_p
  by_cases g1 : 400 < B.length
  · have d1 : decide ((B.length : Int) > 400) = true := by simp; omega
    repeat (first
      | (with_reducible refine lops_step fun K hK => ?_; simp (disch := first | omega | (simp only [go_sem, isRow, isFlat, Option.isSome_some]; done) | assumption | (simp only [ints_length, List.length_replicate, List.length_set, List.length_append, List.length_take, List.length_drop, List.length_cons, List.length_nil] <;> omega) | fail) only [go_sem, Nat.reduceAdd, Nat.reduceSub, reduceIte, Nat.reduceEqDiff, Int.reduceToNat, Int.reduceBEq, Int.reduceBNe, d1]; (repeat (with_reducible refine And.intro (by first | omega | rfl | assumption | decide) ?_)); (first | (refine hK _ _ ?_) | (refine ⟨_, rfl, hK _ _ ?_⟩) | (refine Or.inl (hK _ _ ?_)) | (refine ⟨_, _, Or.inl ((aw.go _).weakQ), (by first | exact ⟨[], (List.append_nil _).symm⟩ | exact ⟨_, rfl⟩), hK _ _ ?_⟩) | (refine ⟨_, _, Or.inl ((aw.go _).weakQ), hK _ _ ?_⟩) | (refine ⟨_, _, Or.inl ((aw.go _).weakQ).weakQ, hK _ _ ?_⟩)); clear hK K)
      | (with_reducible refine lops_nil ?_)
      | (with_reducible refine lavc_reg ?_)
      | (with_reducible refine lavc_seq ?_)
      | (with_reducible refine lavc_block ?_)
      | (with_reducible refine lavc_skip ?_)
      | (with_reducible refine lavc_exit ?_)
      | (with_reducible refine lavc_ret ?_)
      | (with_reducible refine lavcR_round ?_)
      | (simp only [↓reduceIte, Nat.reduceEqDiff, reduceCtorEq]))
    refine lavc_cond rfl (fun hc => ?_) (fun hc => ?_) <;> try simp only [decide_eq_true_eq, decide_eq_false_iff_not, Int.not_lt, Int.not_le, beq_iff_eq, bne_iff_ne, bne_eq_false_iff_eq, beq_eq_false_iff_ne, ne_eq, Bool.not_eq_true', Bool.not_eq_false'] at hc
    · repeat (first
        | (with_reducible refine lops_step fun K hK => ?_; simp (disch := first | omega | (simp only [go_sem, isRow, isFlat, Option.isSome_some]; done) | assumption | (simp only [ints_length, List.length_replicate, List.length_set, List.length_append, List.length_take, List.length_drop, List.length_cons, List.length_nil] <;> omega) | fail) only [go_sem, Nat.reduceAdd, Nat.reduceSub, reduceIte, Nat.reduceEqDiff, Int.reduceToNat, Int.reduceBEq, Int.reduceBNe]; (repeat (with_reducible refine And.intro (by first | omega | rfl | assumption | decide) ?_)); (first | (refine hK _ _ ?_) | (refine ⟨_, rfl, hK _ _ ?_⟩) | (refine Or.inl (hK _ _ ?_)) | (refine ⟨_, _, Or.inl ((aw.go _).weakQ), (by first | exact ⟨[], (List.append_nil _).symm⟩ | exact ⟨_, rfl⟩), hK _ _ ?_⟩) | (refine ⟨_, _, Or.inl ((aw.go _).weakQ), hK _ _ ?_⟩) | (refine ⟨_, _, Or.inl ((aw.go _).weakQ).weakQ, hK _ _ ?_⟩)); clear hK K)
        | (with_reducible refine lops_nil ?_)
        | (with_reducible refine lavc_reg ?_)
        | (with_reducible refine lavc_seq ?_)
        | (with_reducible refine lavc_block ?_)
        | (with_reducible refine lavc_skip ?_)
        | (with_reducible refine lavc_exit ?_)
        | (with_reducible refine lavc_ret ?_)
        | (with_reducible refine lavcR_round ?_)
        | (simp only [↓reduceIte, Nat.reduceEqDiff, reduceCtorEq]))
      refine And.intro (by simp) ?_
      simp (disch := first | omega | (simp only [go_sem, isRow, isFlat, Option.isSome_some]; done) | assumption | (simp only [ints_length, List.length_replicate, List.length_set, List.length_append, List.length_take, List.length_drop, List.length_cons, List.length_nil] <;> omega) | fail) only [go_sem, Nat.reduceAdd, Nat.reduceSub, reduceIte, Nat.reduceEqDiff, Int.reduceToNat, Int.reduceBEq, Int.reduceBNe, aret, aretL, aret1, aenv]
      (repeat (with_reducible refine And.intro (by first | omega | rfl | assumption | decide) ?_))
      exact end0 (NR.v _) rfl
    · cases hc
  have d1 : decide ((B.length : Int) > 400) = false := by simp; omega
  have hU := unpack_p B none hB (by omega)
  have hV := refUnpack_p B none hB (by omega)
  obtain ⟨rs, hrs⟩ : ∃ rs, (unp B).1 = rs := ⟨_, rfl⟩
  obtain ⟨c, hc0⟩ : ∃ c, (unp B).2 = c := ⟨_, rfl⟩
  have hup : unp B = (rs, c) := by rw [← hrs, ← hc0]
  rw [hrs, hc0] at hU hV
  repeat (first
    | (with_reducible refine lops_step fun K hK => ?_; simp (disch := first | omega | (simp only [go_sem, isRow, isFlat, Option.isSome_some]; done) | assumption | (simp only [ints_length, List.length_replicate, List.length_set, List.length_append, List.length_take, List.length_drop, List.length_cons, List.length_nil] <;> omega) | fail) only [go_sem, Nat.reduceAdd, Nat.reduceSub, reduceIte, Nat.reduceEqDiff, Int.reduceToNat, Int.reduceBEq, Int.reduceBNe, d1]; (repeat (with_reducible refine And.intro (by first | omega | rfl | assumption | decide) ?_)); (first | (refine hK _ _ ?_) | (refine ⟨_, rfl, hK _ _ ?_⟩) | (refine Or.inl (hK _ _ ?_)) | (refine ⟨_, _, Or.inl ((aw.go _).weakQ), (by first | exact ⟨[], (List.append_nil _).symm⟩ | exact ⟨_, rfl⟩), hK _ _ ?_⟩) | (refine ⟨_, _, Or.inl ((aw.go _).weakQ), hK _ _ ?_⟩) | (refine ⟨_, _, Or.inl ((aw.go _).weakQ).weakQ, hK _ _ ?_⟩)); clear hK K)
    | (with_reducible refine lops_nil ?_)
    | (with_reducible refine lavc_reg ?_)
    | (with_reducible refine lavc_seq ?_)
    | (with_reducible refine lavc_block ?_)
    | (with_reducible refine lavc_skip ?_)
    | (with_reducible refine lavc_exit ?_)
    | (with_reducible refine lavc_ret ?_)
    | (with_reducible refine lavcR_round ?_)
    | (simp only [↓reduceIte, Nat.reduceEqDiff, reduceCtorEq]))
  refine lavc_cond rfl (fun hc => ?_) (fun hc => ?_) <;> try simp only [decide_eq_true_eq, decide_eq_false_iff_not, Int.not_lt, Int.not_le, beq_iff_eq, bne_iff_ne, bne_eq_false_iff_eq, beq_eq_false_iff_ne, ne_eq, Bool.not_eq_true', Bool.not_eq_false'] at hc
  · cases hc
  repeat (first
    | (with_reducible refine lops_step fun K hK => ?_; simp (disch := first | omega | (simp only [go_sem, isRow, isFlat, Option.isSome_some]; done) | assumption | (simp only [ints_length, List.length_replicate, List.length_set, List.length_append, List.length_take, List.length_drop, List.length_cons, List.length_nil] <;> omega) | fail) only [go_sem, Nat.reduceAdd, Nat.reduceSub, reduceIte, Nat.reduceEqDiff, Int.reduceToNat, Int.reduceBEq, Int.reduceBNe]; (repeat (with_reducible refine And.intro (by first | omega | rfl | assumption | decide) ?_)); (first | (refine hK _ _ ?_) | (refine ⟨_, rfl, hK _ _ ?_⟩) | (refine Or.inl (hK _ _ ?_)) | (refine ⟨_, _, Or.inl (hU.go _), (by first | exact ⟨[], (List.append_nil _).symm⟩ | exact ⟨_, rfl⟩), hK _ _ ?_⟩) | (refine ⟨_, _, Or.inl (hU.go _), hK _ _ ?_⟩) | (refine ⟨_, _, Or.inl (hU.go _).weakQ, hK _ _ ?_⟩) | (refine ⟨_, _, Or.inl (hV.go _), (by first | exact ⟨[], (List.append_nil _).symm⟩ | exact ⟨_, rfl⟩), hK _ _ ?_⟩) | (refine ⟨_, _, Or.inl (hV.go _), hK _ _ ?_⟩) | (refine ⟨_, _, Or.inl (hV.go _).weakQ, hK _ _ ?_⟩)); clear hK K)
    | (with_reducible refine lops_nil ?_)
    | (with_reducible refine lavc_reg ?_)
    | (with_reducible refine lavc_seq ?_)
    | (with_reducible refine lavc_block ?_)
    | (with_reducible refine lavc_skip ?_)
    | (with_reducible refine lavc_exit ?_)
    | (with_reducible refine lavc_ret ?_)
    | (with_reducible refine lavcR_round ?_)
    | (simp only [↓reduceIte, Nat.reduceEqDiff, reduceCtorEq]))
  have q1 : ((c : Int) == (c : Int)) = true := by simp
  by_cases hz : c = 0
  · subst hz
    have hp := unp_pack hB hup
    obtain ⟨f1, f2⟩ := flat_ge rs
    have hpl : 8 + (rs.flatMap fun r => leN 8 r.length ++ r).length = B.length := by
      rw [← hp]
      unfold packP packN
      rw [List.length_append, leN_length]
    have hS := sameR_p rs none none (by omega)
    have hP := pack_p rs (rows .u8 rs) none (rws_rows rs) (by omega) (fun r hr => by have := f2 r hr; omega)
    rw [hp] at hP
    have q2 : ((strOf B).toList == (strOf B).toList) = true := by simp
    have q3 : ((((0 : Nat) : Int)) != 0) = false := by decide
    repeat (first
      | (with_reducible refine lops_step fun K hK => ?_; simp (disch := first | omega | (simp only [go_sem, isRow, isFlat, Option.isSome_some]; done) | assumption | (simp only [ints_length, List.length_replicate, List.length_set, List.length_append, List.length_take, List.length_drop, List.length_cons, List.length_nil] <;> omega) | fail) only [go_sem, Nat.reduceAdd, Nat.reduceSub, reduceIte, Nat.reduceEqDiff, Int.reduceToNat, Int.reduceBEq, Int.reduceBNe, q1, q2, q3, Bool.not_false, Bool.not_true, if_true, if_false, Bool.false_eq_true]; (repeat (with_reducible refine And.intro (by first | omega | rfl | assumption | decide) ?_)); (first | (refine hK _ _ ?_) | (refine ⟨_, rfl, hK _ _ ?_⟩) | (refine Or.inl (hK _ _ ?_)) | (refine ⟨_, _, Or.inl (hS.go _), (by first | exact ⟨[], (List.append_nil _).symm⟩ | exact ⟨_, rfl⟩), hK _ _ ?_⟩) | (refine ⟨_, _, Or.inl (hS.go _), hK _ _ ?_⟩) | (refine ⟨_, _, Or.inl (hS.go _).weakQ, hK _ _ ?_⟩) | (refine ⟨_, _, Or.inl (hP.go _), (by first | exact ⟨[], (List.append_nil _).symm⟩ | exact ⟨_, rfl⟩), hK _ _ ?_⟩) | (refine ⟨_, _, Or.inl (hP.go _), hK _ _ ?_⟩) | (refine ⟨_, _, Or.inl (hP.go _).weakQ, hK _ _ ?_⟩)); clear hK K)
      | (with_reducible refine lops_nil ?_)
      | (with_reducible refine lavc_reg ?_)
      | (with_reducible refine lavc_seq ?_)
      | (with_reducible refine lavc_block ?_)
      | (with_reducible refine lavc_skip ?_)
      | (with_reducible refine lavc_exit ?_)
      | (with_reducible refine lavc_ret ?_)
      | (with_reducible refine lavcR_round ?_)
      | (simp only [↓reduceIte, Nat.reduceEqDiff, reduceCtorEq]))
    refine And.intro (by simp) ?_
    simp (disch := first | omega | (simp only [go_sem, isRow, isFlat, Option.isSome_some]; done) | assumption | (simp only [ints_length, List.length_replicate, List.length_set, List.length_append, List.length_take, List.length_drop, List.length_cons, List.length_nil] <;> omega) | fail) only [go_sem, Nat.reduceAdd, Nat.reduceSub, reduceIte, Nat.reduceEqDiff, Int.reduceToNat, Int.reduceBEq, Int.reduceBNe, aret, aretL, aret1, aenv]
    (repeat (with_reducible refine And.intro (by first | omega | rfl | assumption | decide) ?_))
    exact end0 (NR.v _) rfl
  · have hr := unp_err hup hz
    subst hr
    have hS := sameR_p [] none none (by simp)
    have q3 : ((c : Int) != 0) = true := by simp; omega
    repeat (first
      | (with_reducible refine lops_step fun K hK => ?_; simp (disch := first | omega | (simp only [go_sem, isRow, isFlat, Option.isSome_some]; done) | assumption | (simp only [ints_length, List.length_replicate, List.length_set, List.length_append, List.length_take, List.length_drop, List.length_cons, List.length_nil] <;> omega) | fail) only [go_sem, Nat.reduceAdd, Nat.reduceSub, reduceIte, Nat.reduceEqDiff, Int.reduceToNat, Int.reduceBEq, Int.reduceBNe, q1, q3, Bool.not_false, Bool.not_true, if_true, if_false, Bool.false_eq_true]; (repeat (with_reducible refine And.intro (by first | omega | rfl | assumption | decide) ?_)); (first | (refine hK _ _ ?_) | (refine ⟨_, rfl, hK _ _ ?_⟩) | (refine Or.inl (hK _ _ ?_)) | (refine ⟨_, _, Or.inl (hS.go _), (by first | exact ⟨[], (List.append_nil _).symm⟩ | exact ⟨_, rfl⟩), hK _ _ ?_⟩) | (refine ⟨_, _, Or.inl (hS.go _), hK _ _ ?_⟩) | (refine ⟨_, _, Or.inl (hS.go _).weakQ, hK _ _ ?_⟩)); clear hK K)
      | (with_reducible refine lops_nil ?_)
      | (with_reducible refine lavc_reg ?_)
      | (with_reducible refine lavc_seq ?_)
      | (with_reducible refine lavc_block ?_)
      | (with_reducible refine lavc_skip ?_)
      | (with_reducible refine lavc_exit ?_)
      | (with_reducible refine lavc_ret ?_)
      | (with_reducible refine lavcR_round ?_)
      | (simp only [↓reduceIte, Nat.reduceEqDiff, reduceCtorEq]))
    refine And.intro (by simp) ?_
    simp (disch := first | omega | (simp only [go_sem, isRow, isFlat, Option.isSome_some]; done) | assumption | (simp only [ints_length, List.length_replicate, List.length_set, List.length_append, List.length_take, List.length_drop, List.length_cons, List.length_nil] <;> omega) | fail) only [go_sem, Nat.reduceAdd, Nat.reduceSub, reduceIte, Nat.reduceEqDiff, Int.reduceToNat, Int.reduceBEq, Int.reduceBNe, aret, aretL, aret1, aenv]
    (repeat (with_reducible refine And.intro (by first | omega | rfl | assumption | decide) ?_))
    exact end0 (NR.v _) rfl
end Go.Abs.S
