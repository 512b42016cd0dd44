/- CoinEnds, the law. -/
import Derived.Test.YtldfdofeecmhoaaDoorCoiN
namespace Go.Abs.S
attribute [local go_sem] lguard aopO aop nxL aenv toAV tput aLoad aStore vcells aBin aUn aAlloc aBox aBuild aBSlice afill aConv isIntT aappZ aCap aArr aMM aMake aSlice bnd3 bnd aFldAddr aFld aIdxAddr aIdx aExt aLen aCopy aEq0 bAV aUb aapp aappQ agh acont List.getD_cons_zero List.getD_cons_succ List.set_cons_zero List.set_cons_succ List.getElem?_cons_zero List.getElem?_cons_succ List.length_cons List.length_nil List.map_cons List.map_nil ints_length if_true if_false Bool.false_eq_true true_and and_true eq_self ne_eq not_false_eq_true not_true_eq_false beq_self_eq_true Nat.zero_add Nat.add_zero Nat.mul_one Nat.zero_mul Int.toNat_natCast List.toList_toArray List.all_cons List.all_nil AV.one Value.oneCell' Bool.and_true Bool.true_and forall_const true_implies false_implies implies_true Option.map_some Option.map_none Option.isSome_some Option.isSome_none imp_self rdP_flat rdP_row splice_one ints_set ints_get List.append_nil List.cons_append List.nil_append List.getElem?_toArray List.drop_zero ints_drop ints_take List.take_of_length_le splice_all ints_one Option.some.injEq Option.getD_some List.length_replicate zArr List.map_replicate rep_ints splice_intsR List.length_set List.length_append List.flatten_replicate_singleton rep_slice rep_string rep_bool rep_iface List.replicate_zero if_pos if_neg List.mapM_cons List.mapM_nil Option.pure_def Option.bind_eq_bind Option.bind_some Bool.true_eq_false Bool.not_false Bool.not_true get_concat set_concat
open Go.Proofs
set_option linter.unusedVariables false
set_option linter.unusedSimpArgs false
set_option maxRecDepth 100000
set_option maxHeartbeats 4000000
theorem ends_p (rs : List (List Int)) (cut : Nat) (more : Int) (hb : ∀ r ∈ rs, By r) (hcut : cut ≤ 65535) (hmore : 0 ≤ more ∧ more ≤ 255) :
    PCall Tryd.prog glob 8 [.vsl rs.length (rows .u8 rs) none, .v (.int .u16 cut), .v (.int .u8 more)] (.v (.bool true)) := by
  refine PCall.of ctx.nr (List.forall_mem_cons.2 ⟨NR.vsl (NR.rows _ _), List.forall_mem_cons.2 ⟨NR.v _, List.forall_mem_cons.2 ⟨NR.v _, fun _ h => absurd h List.not_mem_nil⟩⟩⟩) (NR.v _) ?_
  refine lcall8 (by simp) 0 (Nat.le_refl _) ?_
  unfold lc8
  simp only [List.length_cons, List.length_nil, Nat.reduceAdd, Nat.reduceSub, List.replicate_succ, List.replicate_zero, List.cons_append, List.nil_append]
  have aw := awake_p
  by_cases g1 : 20 < rs.length
  · have d1 : decide ((rs.length : Int) > 20) = true := by simp; omega
    repeat (first
      | (with_reducible refine lops_step fun K hK => ?_; simp (disch := first | omega | (simp only [go_sem, isRow, isFlat, Option.isSome_some]; done) | assumption | (simp only [ints_length, List.length_replicate, List.length_set, List.length_append, List.length_take, List.length_drop, List.length_cons, List.length_nil] <;> omega) | fail) only [go_sem, Nat.reduceAdd, Nat.reduceSub, reduceIte, Nat.reduceEqDiff, Int.reduceToNat, Int.reduceBEq, Int.reduceBNe, d1]; (repeat (with_reducible refine And.intro (by first | omega | rfl | assumption | decide) ?_)); (first | (refine hK _ _ ?_) | (refine ⟨_, rfl, hK _ _ ?_⟩) | (refine Or.inl (hK _ _ ?_)) | (refine ⟨_, _, Or.inl ((aw.go _).weakQ), (by first | exact ⟨[], (List.append_nil _).symm⟩ | exact ⟨_, rfl⟩), hK _ _ ?_⟩) | (refine ⟨_, _, Or.inl ((aw.go _).weakQ), hK _ _ ?_⟩) | (refine ⟨_, _, Or.inl ((aw.go _).weakQ).weakQ, hK _ _ ?_⟩)); clear hK K)
      | (with_reducible refine lops_nil ?_)
      | (with_reducible refine lavc_reg ?_)
      | (with_reducible refine lavc_seq ?_)
      | (with_reducible refine lavc_block ?_)
      | (with_reducible refine lavc_skip ?_)
      | (with_reducible refine lavc_exit ?_)
      | (with_reducible refine lavc_ret ?_)
      | (with_reducible refine lavcR_round ?_)
      | (simp only [↓reduceIte, Nat.reduceEqDiff, reduceCtorEq]))
    refine lavc_cond rfl (fun hc => ?_) (fun hc => ?_) <;> try simp only [decide_eq_true_eq, decide_eq_false_iff_not, Int.not_lt, Int.not_le, beq_iff_eq, bne_iff_ne, bne_eq_false_iff_eq, beq_eq_false_iff_ne, ne_eq, Bool.not_eq_true', Bool.not_eq_false'] at hc
    · repeat (first
        | (with_reducible refine lops_step fun K hK => ?_; simp (disch := first | omega | (simp only [go_sem, isRow, isFlat, Option.isSome_some]; done) | assumption | (simp only [ints_length, List.length_replicate, List.length_set, List.length_append, List.length_take, List.length_drop, List.length_cons, List.length_nil] <;> omega) | fail) only [go_sem, Nat.reduceAdd, Nat.reduceSub, reduceIte, Nat.reduceEqDiff, Int.reduceToNat, Int.reduceBEq, Int.reduceBNe]; (repeat (with_reducible refine And.intro (by first | omega | rfl | assumption | decide) ?_)); (first | (refine hK _ _ ?_) | (refine ⟨_, rfl, hK _ _ ?_⟩) | (refine Or.inl (hK _ _ ?_)) | (refine ⟨_, _, Or.inl ((aw.go _).weakQ), (by first | exact ⟨[], (List.append_nil _).symm⟩ | exact ⟨_, rfl⟩), hK _ _ ?_⟩) | (refine ⟨_, _, Or.inl ((aw.go _).weakQ), hK _ _ ?_⟩) | (refine ⟨_, _, Or.inl ((aw.go _).weakQ).weakQ, hK _ _ ?_⟩)); clear hK K)
        | (with_reducible refine lops_nil ?_)
        | (with_reducible refine lavc_reg ?_)
        | (with_reducible refine lavc_seq ?_)
        | (with_reducible refine lavc_block ?_)
        | (with_reducible refine lavc_skip ?_)
        | (with_reducible refine lavc_exit ?_)
        | (with_reducible refine lavc_ret ?_)
        | (with_reducible refine lavcR_round ?_)
        | (simp only [↓reduceIte, Nat.reduceEqDiff, reduceCtorEq]))
      refine And.intro (by simp) ?_
      simp (disch := first | omega | (simp only [go_sem, isRow, isFlat, Option.isSome_some]; done) | assumption | (simp only [ints_length, List.length_replicate, List.length_set, List.length_append, List.length_take, List.length_drop, List.length_cons, List.length_nil] <;> omega) | fail) only [go_sem, Nat.reduceAdd, Nat.reduceSub, reduceIte, Nat.reduceEqDiff, Int.reduceToNat, Int.reduceBEq, Int.reduceBNe, aret, aretL, aret1, aenv]
      (repeat (with_reducible refine And.intro (by first | omega | rfl | assumption | decide) ?_))
      exact end0 (NR.v _) rfl
    · cases hc
  have d1 : decide ((rs.length : Int) > 20) = false := by simp; omega
  repeat (first
    | (with_reducible refine lops_step fun K hK => ?_; simp (disch := first | omega | (simp only [go_sem, isRow, isFlat, Option.isSome_some]; done) | assumption | (simp only [ints_length, List.length_replicate, List.length_set, List.length_append, List.length_take, List.length_drop, List.length_cons, List.length_nil] <;> omega) | fail) only [go_sem, Nat.reduceAdd, Nat.reduceSub, reduceIte, Nat.reduceEqDiff, Int.reduceToNat, Int.reduceBEq, Int.reduceBNe, d1]; (repeat (with_reducible refine And.intro (by first | omega | rfl | assumption | decide) ?_)); (first | (refine hK _ _ ?_) | (refine ⟨_, rfl, hK _ _ ?_⟩) | (refine Or.inl (hK _ _ ?_)) | (refine ⟨_, _, Or.inl ((aw.go _).weakQ), (by first | exact ⟨[], (List.append_nil _).symm⟩ | exact ⟨_, rfl⟩), hK _ _ ?_⟩) | (refine ⟨_, _, Or.inl ((aw.go _).weakQ), hK _ _ ?_⟩) | (refine ⟨_, _, Or.inl ((aw.go _).weakQ).weakQ, hK _ _ ?_⟩)); clear hK K)
    | (with_reducible refine lops_nil ?_)
    | (with_reducible refine lavc_reg ?_)
    | (with_reducible refine lavc_seq ?_)
    | (with_reducible refine lavc_block ?_)
    | (with_reducible refine lavc_skip ?_)
    | (with_reducible refine lavc_exit ?_)
    | (with_reducible refine lavc_ret ?_)
    | (with_reducible refine lavcR_round ?_)
    | (simp only [↓reduceIte, Nat.reduceEqDiff, reduceCtorEq]))
  refine lavc_cond rfl (fun hc => ?_) (fun hc => ?_) <;> try simp only [decide_eq_true_eq, decide_eq_false_iff_not, Int.not_lt, Int.not_le, beq_iff_eq, bne_iff_ne, bne_eq_false_iff_eq, beq_eq_false_iff_ne, ne_eq, Bool.not_eq_true', Bool.not_eq_false'] at hc
  · cases hc
  have hrl : (rows .u8 rs).length = rs.length := rows_length _ _
  repeat (first
    | (with_reducible refine lops_step fun K hK => ?_; simp (disch := first | omega | (simp only [go_sem, isRow, isFlat, Option.isSome_some]; done) | assumption | (simp only [ints_length, List.length_replicate, List.length_set, List.length_append, List.length_take, List.length_drop, List.length_cons, List.length_nil] <;> omega) | fail) only [go_sem, Nat.reduceAdd, Nat.reduceSub, reduceIte, Nat.reduceEqDiff, Int.reduceToNat, Int.reduceBEq, Int.reduceBNe, hrl]; (repeat (with_reducible refine And.intro (by first | omega | rfl | assumption | decide) ?_)); (first | (refine hK _ _ ?_) | (refine ⟨_, rfl, hK _ _ ?_⟩) | (refine Or.inl (hK _ _ ?_))); clear hK K)
    | (with_reducible refine lops_nil ?_)
    | (with_reducible refine lavc_reg ?_)
    | (with_reducible refine lavc_seq ?_)
    | (with_reducible refine lavc_block ?_)
    | (with_reducible refine lavc_skip ?_)
    | (with_reducible refine lavc_exit ?_)
    | (with_reducible refine lavc_ret ?_)
    | (with_reducible refine lavcR_round ?_)
    | (simp only [↓reduceIte, Nat.reduceEqDiff, reduceCtorEq]))
  refine lavc_loopM ms8_0 (fun m (i : Nat) => m + i = rs.length ∧ ∀ r ∈ rs.take i, r.length ≤ 100) (fun i => [(24, .v (.int .i64 i))]) (fun _ => []) rs.length 0 ⟨by omega, by simp⟩ ?_ ?_ ?_
  · simp only [ms8_0, putAll, blank, List.foldl_cons, List.foldl_nil, List.set_cons_succ, List.set_cons_zero, List.cons_append, List.nil_append, ALe, true_or, or_true, and_true, true_and, eq_self, reduceCtorEq, false_or]
    rfl
  · rfl
  rintro m i ⟨hi, hs⟩
  simp only [ms8_0, putAll, blank, List.foldl_cons, List.foldl_nil, List.set_cons_succ, List.set_cons_zero, List.cons_append, List.nil_append]
  repeat (first
    | (with_reducible refine lops_step fun K hK => ?_; simp (disch := first | omega | (simp only [go_sem, isRow, isFlat, Option.isSome_some]; done) | assumption | (simp only [ints_length, List.length_replicate, List.length_set, List.length_append, List.length_take, List.length_drop, List.length_cons, List.length_nil] <;> omega) | fail) only [go_sem, Nat.reduceAdd, Nat.reduceSub, reduceIte, Nat.reduceEqDiff, Int.reduceToNat, Int.reduceBEq, Int.reduceBNe]; (repeat (with_reducible refine And.intro (by first | omega | rfl | assumption | decide) ?_)); (first | (refine hK _ _ ?_) | (refine ⟨_, rfl, hK _ _ ?_⟩) | (refine Or.inl (hK _ _ ?_))); clear hK K)
    | (with_reducible refine lops_nil ?_)
    | (with_reducible refine lavc_reg ?_)
    | (with_reducible refine lavc_seq ?_)
    | (with_reducible refine lavc_block ?_)
    | (with_reducible refine lavc_skip ?_)
    | (with_reducible refine lavc_exit ?_)
    | (with_reducible refine lavc_ret ?_)
    | (with_reducible refine lavcR_round ?_)
    | (simp only [↓reduceIte, Nat.reduceEqDiff, reduceCtorEq]))
  refine lavc_cond rfl (fun hc => ?_) (fun hc => ?_) <;> try simp only [decide_eq_true_eq, decide_eq_false_iff_not, Int.not_lt, Int.not_le, beq_iff_eq, bne_iff_ne, bne_eq_false_iff_eq, beq_eq_false_iff_ne, ne_eq, Bool.not_eq_true', Bool.not_eq_false'] at hc
  · have g3 := rows_at rs i (by omega)
    have e1 := i64n ((i : Int) + 1) (i + 1) (by omega) (by omega)
    obtain ⟨r, hr⟩ : ∃ r, rs.getD i [] = r := ⟨_, rfl⟩
    rw [hr] at g3
    have hst : rs.take (i + 1) = rs.take i ++ [r] := by
      rw [List.take_add_one, List.getElem?_eq_getElem (by omega), ← hr, List.getD_eq_getElem?_getD, List.getElem?_eq_getElem (by omega)]
      rfl
    by_cases hr100 : 100 < r.length
    · have d2 : decide ((r.length : Int) > 100) = true := by simp; omega
      repeat (first
        | (with_reducible refine lops_step fun K hK => ?_; simp (disch := first | omega | (simp only [go_sem, isRow, isFlat, Option.isSome_some]; done) | assumption | (simp only [ints_length, List.length_replicate, List.length_set, List.length_append, List.length_take, List.length_drop, List.length_cons, List.length_nil] <;> omega) | fail) only [go_sem, Nat.reduceAdd, Nat.reduceSub, reduceIte, Nat.reduceEqDiff, Int.reduceToNat, Int.reduceBEq, Int.reduceBNe, g3, e1, hrl, d2]; (repeat (with_reducible refine And.intro (by first | omega | rfl | assumption | decide) ?_)); (first | (refine hK _ _ ?_) | (refine ⟨_, rfl, hK _ _ ?_⟩) | (refine Or.inl (hK _ _ ?_))); clear hK K)
        | (with_reducible refine lops_nil ?_)
        | (with_reducible refine lavc_reg ?_)
        | (with_reducible refine lavc_seq ?_)
        | (with_reducible refine lavc_block ?_)
        | (with_reducible refine lavc_skip ?_)
        | (with_reducible refine lavc_exit ?_)
        | (with_reducible refine lavc_ret ?_)
        | (with_reducible refine lavcR_round ?_)
        | (simp only [↓reduceIte, Nat.reduceEqDiff, reduceCtorEq]))
      refine lavc_cond rfl (fun hc => ?_) (fun hc => ?_) <;> try simp only [decide_eq_true_eq, decide_eq_false_iff_not, Int.not_lt, Int.not_le, beq_iff_eq, bne_iff_ne, bne_eq_false_iff_eq, beq_eq_false_iff_ne, ne_eq, Bool.not_eq_true', Bool.not_eq_false'] at hc
      · repeat (first
          | (with_reducible refine lops_step fun K hK => ?_; simp (disch := first | omega | (simp only [go_sem, isRow, isFlat, Option.isSome_some]; done) | assumption | (simp only [ints_length, List.length_replicate, List.length_set, List.length_append, List.length_take, List.length_drop, List.length_cons, List.length_nil] <;> omega) | fail) only [go_sem, Nat.reduceAdd, Nat.reduceSub, reduceIte, Nat.reduceEqDiff, Int.reduceToNat, Int.reduceBEq, Int.reduceBNe]; (repeat (with_reducible refine And.intro (by first | omega | rfl | assumption | decide) ?_)); (first | (refine hK _ _ ?_) | (refine ⟨_, rfl, hK _ _ ?_⟩) | (refine Or.inl (hK _ _ ?_))); clear hK K)
          | (with_reducible refine lops_nil ?_)
          | (with_reducible refine lavc_reg ?_)
          | (with_reducible refine lavc_seq ?_)
          | (with_reducible refine lavc_block ?_)
          | (with_reducible refine lavc_skip ?_)
          | (with_reducible refine lavc_exit ?_)
          | (with_reducible refine lavc_ret ?_)
          | (with_reducible refine lavcR_round ?_)
          | (simp only [↓reduceIte, Nat.reduceEqDiff, reduceCtorEq]))
        refine And.intro (by simp) ?_
        simp (disch := first | omega | (simp only [go_sem, isRow, isFlat, Option.isSome_some]; done) | assumption | (simp only [ints_length, List.length_replicate, List.length_set, List.length_append, List.length_take, List.length_drop, List.length_cons, List.length_nil] <;> omega) | fail) only [go_sem, Nat.reduceAdd, Nat.reduceSub, reduceIte, Nat.reduceEqDiff, Int.reduceToNat, Int.reduceBEq, Int.reduceBNe, aret, aretL, aret1, aenv]
        (repeat (with_reducible refine And.intro (by first | omega | rfl | assumption | decide) ?_))
        exact end0 (NR.v _) rfl
      · cases hc
    · have d2 : decide ((r.length : Int) > 100) = false := by simp; omega
      repeat (first
        | (with_reducible refine lops_step fun K hK => ?_; simp (disch := first | omega | (simp only [go_sem, isRow, isFlat, Option.isSome_some]; done) | assumption | (simp only [ints_length, List.length_replicate, List.length_set, List.length_append, List.length_take, List.length_drop, List.length_cons, List.length_nil] <;> omega) | fail) only [go_sem, Nat.reduceAdd, Nat.reduceSub, reduceIte, Nat.reduceEqDiff, Int.reduceToNat, Int.reduceBEq, Int.reduceBNe, g3, e1, hrl, d2]; (repeat (with_reducible refine And.intro (by first | omega | rfl | assumption | decide) ?_)); (first | (refine hK _ _ ?_) | (refine ⟨_, rfl, hK _ _ ?_⟩) | (refine Or.inl (hK _ _ ?_))); clear hK K)
        | (with_reducible refine lops_nil ?_)
        | (with_reducible refine lavc_reg ?_)
        | (with_reducible refine lavc_seq ?_)
        | (with_reducible refine lavc_block ?_)
        | (with_reducible refine lavc_skip ?_)
        | (with_reducible refine lavc_exit ?_)
        | (with_reducible refine lavc_ret ?_)
        | (with_reducible refine lavcR_round ?_)
        | (simp only [↓reduceIte, Nat.reduceEqDiff, reduceCtorEq]))
      refine lavc_cond rfl (fun hc => ?_) (fun hc => ?_) <;> try simp only [decide_eq_true_eq, decide_eq_false_iff_not, Int.not_lt, Int.not_le, beq_iff_eq, bne_iff_ne, bne_eq_false_iff_eq, beq_eq_false_iff_ne, ne_eq, Bool.not_eq_true', Bool.not_eq_false'] at hc
      · cases hc
      repeat (first
        | (with_reducible refine lops_step fun K hK => ?_; simp (disch := first | omega | (simp only [go_sem, isRow, isFlat, Option.isSome_some]; done) | assumption | (simp only [ints_length, List.length_replicate, List.length_set, List.length_append, List.length_take, List.length_drop, List.length_cons, List.length_nil] <;> omega) | fail) only [go_sem, Nat.reduceAdd, Nat.reduceSub, reduceIte, Nat.reduceEqDiff, Int.reduceToNat, Int.reduceBEq, Int.reduceBNe, g3, e1, hrl]; (repeat (with_reducible refine And.intro (by first | omega | rfl | assumption | decide) ?_)); (first | (refine hK _ _ ?_) | (refine ⟨_, rfl, hK _ _ ?_⟩) | (refine Or.inl (hK _ _ ?_))); clear hK K)
        | (with_reducible refine lops_nil ?_)
        | (with_reducible refine lavc_reg ?_)
        | (with_reducible refine lavc_seq ?_)
        | (with_reducible refine lavc_block ?_)
        | (with_reducible refine lavc_skip ?_)
        | (with_reducible refine lavc_exit ?_)
        | (with_reducible refine lavc_ret ?_)
        | (with_reducible refine lavcR_round ?_)
        | (simp only [↓reduceIte, Nat.reduceEqDiff, reduceCtorEq]))
      refine ⟨m - 1, i + 1, by omega, ⟨by omega, ?_⟩, ?_, trivial⟩
      · intro q hq
        rw [hst] at hq
        rcases List.mem_append.1 hq with hq | hq
        · exact hs q hq
        · rw [List.mem_singleton] at hq
          subst hq
          omega
      simp only [ms8_0, putAll, blank, List.foldl_cons, List.foldl_nil, List.set_cons_succ, List.set_cons_zero, List.cons_append, List.nil_append, ALe, true_or, or_true, and_true, true_and, eq_self, reduceCtorEq, false_or, e1]
  obtain rfl : i = rs.length := by omega
  rw [List.take_length] at hs
  have hP := pack_p rs (rows .u8 rs) none (rws_rows rs) (by omega) (fun r hr => by have := hs r hr; omega)
  have hB : By (packP rs) := By.pack hb
  have hle := flt_le rs 100 hs
  have hpl : (packP rs).length = 8 + (flt rs).length := by rw [packP_eq, List.length_append, leN_length]
  have hr2 : ∀ r ∈ rs, r.length ≤ 2147483647 := fun r hr => by have := hs r hr; omega
  obtain ⟨B, hPB⟩ : ∃ B, packP rs = B := ⟨_, rfl⟩
  have u1 : unp (B.take (cut % B.length)) = ([], 3) := by rw [← hPB]; exact unp_cut rs _ (by omega) hr2 (Nat.mod_lt _ (by omega))
  have u2 : unp (B ++ [more]) = ([], 2) := by rw [← hPB, unp_end rs [more] (by omega) hr2]; rfl
  rw [hPB] at hP hB hpl
  have hm : cut % B.length < B.length := Nat.mod_lt _ (by omega)
  have hU1 := unpack_p (B.take (cut % B.length)) none (fun x hx => hB x (List.mem_of_mem_take hx)) (by rw [List.length_take]; omega)
  have hU2 := fun cx => unpack_p (B ++ [more]) cx (By.append hB (fun x hx => by rw [List.mem_singleton] at hx; subst hx; exact hmore)) (by rw [List.length_append]; simp; omega)
  rw [u1] at hU1
  rw [u2] at hU2
  have ht : (B.take (cut % B.length)).length = cut % B.length := by rw [List.length_take]; omega
  have ha : (B ++ [more]).length = B.length + 1 := by simp
  rw [ht] at hU1
  rw [ha] at hU2
  have d3 : decide ((B.length : Int) < 8) = false := by simp; omega
  have c1 := i64n (cut : Int) cut rfl (by omega)
  have t1 : (cut : Int).tmod (B.length : Int) = ((cut % B.length : Nat) : Int) := tmodN _ _
  have c2 := i64n ((cut % B.length : Nat) : Int) (cut % B.length) rfl (by omega)
  obtain ⟨m, hmm⟩ : ∃ m, cut % B.length = m := ⟨_, rfl⟩
  rw [hmm] at hm hU1 t1 c2
  repeat (first
    | (with_reducible refine lops_step fun K hK => ?_; simp (disch := first | omega | (simp only [go_sem, isRow, isFlat, Option.isSome_some]; done) | assumption | (simp only [ints_length, List.length_replicate, List.length_set, List.length_append, List.length_take, List.length_drop, List.length_cons, List.length_nil] <;> omega) | fail) only [go_sem, Nat.reduceAdd, Nat.reduceSub, reduceIte, Nat.reduceEqDiff, Int.reduceToNat, Int.reduceBEq, Int.reduceBNe, d3]; (repeat (with_reducible refine And.intro (by first | omega | rfl | assumption | decide) ?_)); (first | (refine hK _ _ ?_) | (refine ⟨_, rfl, hK _ _ ?_⟩) | (refine Or.inl (hK _ _ ?_)) | (refine ⟨_, _, Or.inl (hP.go _), (by first | exact ⟨[], (List.append_nil _).symm⟩ | exact ⟨_, rfl⟩), hK _ _ ?_⟩) | (refine ⟨_, _, Or.inl (hP.go _), hK _ _ ?_⟩) | (refine ⟨_, _, Or.inl (hP.go _).weakQ, hK _ _ ?_⟩)); clear hK K)
    | (with_reducible refine lops_nil ?_)
    | (with_reducible refine lavc_reg ?_)
    | (with_reducible refine lavc_seq ?_)
    | (with_reducible refine lavc_block ?_)
    | (with_reducible refine lavc_skip ?_)
    | (with_reducible refine lavc_exit ?_)
    | (with_reducible refine lavc_ret ?_)
    | (with_reducible refine lavcR_round ?_)
    | (simp only [↓reduceIte, Nat.reduceEqDiff, reduceCtorEq]))
  refine lavc_cond rfl (fun hc => ?_) (fun hc => ?_) <;> try simp only [decide_eq_true_eq, decide_eq_false_iff_not, Int.not_lt, Int.not_le, beq_iff_eq, bne_iff_ne, bne_eq_false_iff_eq, beq_eq_false_iff_ne, ne_eq, Bool.not_eq_true', Bool.not_eq_false'] at hc
  · cases hc
  have f1 : (List.replicate 1 (0 : Int)).set 0 more = [more] := rfl
  have f3 : List.take B.length (ints .u8 B) = ints .u8 B := List.take_of_length_le (by rw [ints_length]; omega)
  have f2 : ints .u8 B ++ ints .u8 [more] = ints .u8 (B ++ [more]) := ints_append _ _ _
  repeat (first
    | (with_reducible refine lops_step fun K hK => ?_; simp (disch := first | omega | (simp only [go_sem, isRow, isFlat, Option.isSome_some]; done) | assumption | (simp only [ints_length, List.length_replicate, List.length_set, List.length_append, List.length_take, List.length_drop, List.length_cons, List.length_nil] <;> omega) | fail) only [go_sem, Nat.reduceAdd, Nat.reduceSub, reduceIte, Nat.reduceEqDiff, Int.reduceToNat, Int.reduceBEq, Int.reduceBNe, c1, t1, c2, f1, f2, f3, Nat.sub_zero, List.flatten_nil, List.nil_append]; (repeat (with_reducible refine And.intro (by first | omega | rfl | assumption | decide) ?_)); (first | (refine hK _ _ ?_) | (refine ⟨_, rfl, hK _ _ ?_⟩) | (refine Or.inr (hK _ _ ?_)) | (refine Or.inr ⟨rfl, hK _ _ ?_⟩) | (refine ⟨_, _, Or.inl (hU1.go _), (by first | exact ⟨[], (List.append_nil _).symm⟩ | exact ⟨_, rfl⟩), hK _ _ ?_⟩) | (refine ⟨_, _, Or.inl (hU1.go _), hK _ _ ?_⟩) | (refine ⟨_, _, Or.inl (hU1.go _).weakQ, hK _ _ ?_⟩) | (refine ⟨_, _, Or.inl ((hU2 _).go _), (by first | exact ⟨[], (List.append_nil _).symm⟩ | exact ⟨_, rfl⟩), hK _ _ ?_⟩) | (refine ⟨_, _, Or.inl ((hU2 _).go _), hK _ _ ?_⟩) | (refine ⟨_, _, Or.inl ((hU2 _).go _).weakQ, hK _ _ ?_⟩)); clear hK K)
    | (with_reducible refine lops_nil ?_)
    | (with_reducible refine lavc_reg ?_)
    | (with_reducible refine lavc_seq ?_)
    | (with_reducible refine lavc_block ?_)
    | (with_reducible refine lavc_skip ?_)
    | (with_reducible refine lavc_exit ?_)
    | (with_reducible refine lavc_ret ?_)
    | (with_reducible refine lavcR_round ?_)
    | (simp only [↓reduceIte, Nat.reduceEqDiff, reduceCtorEq]))
  have tk : List.take (B.length + 1) (ints .u8 (B ++ [more])) = ints .u8 (B ++ [more]) := List.take_of_length_le (by rw [ints_length]; omega)
  refine lops_fz [0] ?_
  simp (disch := first | omega | (simp only [go_sem, isRow, isFlat, Option.isSome_some]; done) | assumption | (simp only [ints_length, List.length_replicate, List.length_set, List.length_append, List.length_take, List.length_drop, List.length_cons, List.length_nil] <;> omega) | fail) only [afz, fzV, fzS, fz_ints, List.map_cons, List.map_nil, List.getElem?_cons_zero, List.getElem?_cons_succ, List.set_cons_zero, List.set_cons_succ, ints_length, true_and, and_true, and_self, if_true, if_false, ↓reduceIte, Nat.reduceEqDiff, Nat.reduceLeDiff, Nat.reduceMul, Nat.reduceAdd, Nat.zero_add, Nat.mul_one, Nat.le_refl, List.length_replicate, List.drop_zero, ints_drop, ints_take, List.take_of_length_le, false_and, and_false, reduceCtorEq, Bool.false_eq_true, forall_const, if_pos, if_neg, tk, ha]
  (repeat (with_reducible refine And.intro (by first | omega | rfl | assumption | decide) ?_))
  intro K hK
  simp (disch := first | omega | (simp only [go_sem, isRow, isFlat, Option.isSome_some]; done) | assumption | (simp only [ints_length, List.length_replicate, List.length_set, List.length_append, List.length_take, List.length_drop, List.length_cons, List.length_nil] <;> omega) | fail) only [go_sem, Nat.reduceAdd, Nat.reduceSub, reduceIte, Nat.reduceEqDiff, Int.reduceToNat, Int.reduceBEq, Int.reduceBNe, tk, ha]
  refine ⟨_, _, Or.inl ((hU2 _).go _).weakQ, hK _ _ ?_⟩
  clear hK K
  have q3 : (((3 : Nat) : Int) == 3) = true := rfl
  have q2 : (((2 : Nat) : Int) == 2) = true := rfl
  have q0 : (((0 : Nat) : Int) == 0) = true := rfl
  repeat (first
    | (with_reducible refine lops_step fun K hK => ?_; simp (disch := first | omega | (simp only [go_sem, isRow, isFlat, Option.isSome_some]; done) | assumption | (simp only [ints_length, List.length_replicate, List.length_set, List.length_append, List.length_take, List.length_drop, List.length_cons, List.length_nil] <;> omega) | fail) only [go_sem, Nat.reduceAdd, Nat.reduceSub, reduceIte, Nat.reduceEqDiff, Int.reduceToNat, Int.reduceBEq, Int.reduceBNe, q3, q2, q0, if_true, Bool.true_eq_false]; (repeat (with_reducible refine And.intro (by first | omega | rfl | assumption | decide) ?_)); (first | (refine hK _ _ ?_) | (refine ⟨_, rfl, hK _ _ ?_⟩) | (refine Or.inl (hK _ _ ?_))); clear hK K)
    | (with_reducible refine lops_nil ?_)
    | (with_reducible refine lavc_reg ?_)
    | (with_reducible refine lavc_seq ?_)
    | (with_reducible refine lavc_block ?_)
    | (with_reducible refine lavc_skip ?_)
    | (with_reducible refine lavc_exit ?_)
    | (with_reducible refine lavc_ret ?_)
    | (with_reducible refine lavcR_round ?_)
    | (simp only [↓reduceIte, Nat.reduceEqDiff, reduceCtorEq]))
  refine And.intro (by simp) ?_
  simp (disch := first | omega | (simp only [go_sem, isRow, isFlat, Option.isSome_some]; done) | assumption | (simp only [ints_length, List.length_replicate, List.length_set, List.length_append, List.length_take, List.length_drop, List.length_cons, List.length_nil] <;> omega) | fail) only [go_sem, Nat.reduceAdd, Nat.reduceSub, reduceIte, Nat.reduceEqDiff, Int.reduceToNat, Int.reduceBEq, Int.reduceBNe, aret, aretL, aret1, aenv]
  (repeat (with_reducible refine And.intro (by first | omega | rfl | assumption | decide) ?_))
  exact end0 (NR.v _) rfl
end Go.Abs.S
