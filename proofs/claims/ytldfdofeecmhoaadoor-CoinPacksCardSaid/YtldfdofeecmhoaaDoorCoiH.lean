/- The reference's number and Unpack. -/
import Derived.Test.YtldfdofeecmhoaaDoorCoiG
namespace Go.Abs.S
attribute [local go_sem] lguard aopO aop nxL aenv toAV tput aLoad aStore vcells aBin aNilI aUn aAlloc aBox aBuild aBSlice afill aConv isIntT aappZ aCap aArr aMM aMake aSlice bnd3 bnd aFldAddr aFld aIdxAddr aIdx aExt aLen aCopy aEq0 bAV aUb aapp aappQ agh acont List.getD_cons_zero List.getD_cons_succ List.set_cons_zero List.set_cons_succ List.getElem?_cons_zero List.getElem?_cons_succ List.length_cons List.length_nil List.map_cons List.map_nil ints_length if_true if_false Bool.false_eq_true true_and and_true eq_self ne_eq not_false_eq_true not_true_eq_false beq_self_eq_true Nat.zero_add Nat.add_zero Nat.mul_one Nat.zero_mul Int.toNat_natCast List.toList_toArray List.all_cons List.all_nil AV.one Value.oneCell' Bool.and_true Bool.true_and forall_const true_implies false_implies implies_true Option.map_some Option.map_none Option.isSome_some Option.isSome_none imp_self rdP_flat rdP_row splice_one ints_set ints_get List.append_nil List.cons_append List.nil_append List.getElem?_toArray List.drop_zero ints_drop ints_take List.take_of_length_le splice_all ints_one Option.some.injEq Option.getD_some List.length_replicate zArr List.map_replicate rep_ints splice_intsR List.length_set List.length_append List.flatten_replicate_singleton rep_slice rep_string rep_bool rep_iface List.replicate_zero if_pos if_neg List.mapM_cons List.mapM_nil Option.pure_def Option.bind_eq_bind Option.bind_some Bool.true_eq_false Bool.not_false Bool.not_true get_concat set_concat
open Go.Proofs
set_option linter.unusedVariables false
set_option linter.unusedSimpArgs false
set_option maxRecDepth 100000
set_option maxHeartbeats 4000000
theorem eight_of : ∀ {B : List Int}, 8 ≤ B.length → ∃ b0 b1 b2 b3 b4 b5 b6 b7 R, B = b0 :: b1 :: b2 :: b3 :: b4 :: b5 :: b6 :: b7 :: R
  | b0 :: b1 :: b2 :: b3 :: b4 :: b5 :: b6 :: b7 :: R, _ => ⟨b0, b1, b2, b3, b4, b5, b6, b7, R, rfl⟩
  | [], h | [_], h | [_, _], h | [_, _, _], h | [_, _, _, _], h | [_, _, _, _, _], h | [_, _, _, _, _, _], h | [_, _, _, _, _, _, _], h => by simp at h
def decN (B : List Int) : Int := match dec B with | some (k, _) => k | none => 0
def decB (B : List Int) : Bool := (dec B).isSome
theorem refNumber_p (B : List Int) (cx : Option Nat) (hB : By B) (h1 : B.length ≤ 1000000) :
    PCall Tryd.prog glob 26 [.vsl B.length (ints .u8 B) cx] (.tup [.v (.int .i64 (decN B)), .v (.bool (decB B))]) := by
  refine PCall.of ctx.nr (by (repeat (refine List.forall_mem_cons.2 (And.intro (by first | exact NR.v _ | exact NR.agg (NR.ints _ _) | exact NR.vsl (NR.ints _ _) | exact NR.vptr (NR.ints _ _) | assumption) ?_))); exact fun _ h => absurd h List.not_mem_nil) (NR.tup (by simp [NR.v])) ?_
  refine lcall26 (by simp) 0 (Nat.le_refl _) ?_
  unfold lc26
  simp only [List.length_cons, List.length_nil, Nat.reduceAdd, Nat.reduceSub, List.replicate_succ, List.replicate_zero, List.cons_append, List.nil_append]
  by_cases hs : B.length < 8
  · have d1 : decide ((B.length : Int) < 8) = true := by simp; omega
    have hd : dec B = none := by unfold dec; rw [if_pos (.inl hs)]
    repeat (first
      | (with_reducible refine lops_step fun K hK => ?_; simp (disch := first | omega | (simp only [go_sem, isRow, isFlat, Option.isSome_some]; done) | assumption | (simp only [ints_length, List.length_replicate, List.length_set, List.length_append, List.length_take, List.length_drop, List.length_cons, List.length_nil] <;> omega) | fail) only [go_sem, Nat.reduceAdd, Nat.reduceSub, reduceIte, Nat.reduceEqDiff, Int.reduceToNat, Int.reduceBEq, Int.reduceBNe, d1, Bool.not_true, Bool.not_false, if_true, if_false, Bool.false_eq_true]; (repeat (with_reducible refine And.intro (by first | omega | rfl | assumption | decide) ?_)); (first | (refine hK _ _ ?_) | (refine ⟨_, rfl, hK _ _ ?_⟩) | (refine Or.inl (hK _ _ ?_))); clear hK K)
      | (with_reducible refine lops_nil ?_)
      | (with_reducible refine lavc_reg ?_)
      | (with_reducible refine lavc_seq ?_)
      | (with_reducible refine lavc_block ?_)
      | (with_reducible refine lavc_skip ?_)
      | (with_reducible refine lavc_exit ?_)
      | (with_reducible refine lavc_ret ?_)
      | (with_reducible refine lavcR_round ?_)
      | (simp only [↓reduceIte, Nat.reduceEqDiff, reduceCtorEq]))
    refine lavc_cond rfl (fun _ => ?_) (fun hc => by cases hc)
    repeat (first
      | (with_reducible refine lops_step fun K hK => ?_; simp (disch := first | omega | (simp only [go_sem, isRow, isFlat, Option.isSome_some]; done) | assumption | (simp only [ints_length, List.length_replicate, List.length_set, List.length_append, List.length_take, List.length_drop, List.length_cons, List.length_nil] <;> omega) | fail) only [go_sem, Nat.reduceAdd, Nat.reduceSub, reduceIte, Nat.reduceEqDiff, Int.reduceToNat, Int.reduceBEq, Int.reduceBNe]; (repeat (with_reducible refine And.intro (by first | omega | rfl | assumption | decide) ?_)); (first | (refine hK _ _ ?_) | (refine ⟨_, rfl, hK _ _ ?_⟩) | (refine Or.inl (hK _ _ ?_))); clear hK K)
      | (with_reducible refine lops_nil ?_)
      | (with_reducible refine lavc_reg ?_)
      | (with_reducible refine lavc_seq ?_)
      | (with_reducible refine lavc_block ?_)
      | (with_reducible refine lavc_skip ?_)
      | (with_reducible refine lavc_exit ?_)
      | (with_reducible refine lavc_ret ?_)
      | (with_reducible refine lavcR_round ?_)
      | (simp only [↓reduceIte, Nat.reduceEqDiff, reduceCtorEq]))
    refine And.intro (by simp) ?_
    simp (disch := first | omega | (simp only [go_sem, isRow, isFlat, Option.isSome_some]; done) | assumption | (simp only [ints_length, List.length_replicate, List.length_set, List.length_append, List.length_take, List.length_drop, List.length_cons, List.length_nil] <;> omega) | fail) only [go_sem, Nat.reduceAdd, Nat.reduceSub, reduceIte, Nat.reduceEqDiff, Int.reduceToNat, Int.reduceBEq, Int.reduceBNe, aret, aretL, aret1, aenv]
    (repeat (with_reducible refine And.intro (by first | omega | rfl | assumption | decide) ?_))
    exact end0 (NR.tup (by simp [NR.v])) (by unfold decN decB; rw [hd]; rfl)
  obtain ⟨L, hL⟩ : ∃ L, B.length = L := ⟨_, rfl⟩
  obtain ⟨b0, b1, b2, b3, b4, b5, b6, b7, R, rfl⟩ := eight_of (by omega : 8 ≤ B.length)
  have hv : val ((b0 :: b1 :: b2 :: b3 :: b4 :: b5 :: b6 :: b7 :: R).take 8) = b0 + 256 * (b1 + 256 * (b2 + 256 * (b3 + 256 * (b4 + 256 * (b5 + 256 * (b6 + 256 * b7)))))) := by simp [val]
  have hm : ∀ x ∈ [b0, b1, b2, b3, b4, b5, b6, b7], 0 ≤ x ∧ x ≤ 255 := fun x hx => hB x (by simp only [List.mem_cons, List.not_mem_nil, or_false] at hx ⊢; rcases hx with h | h | h | h | h | h | h | h <;> simp [h])
  simp only [List.mem_cons, List.not_mem_nil, or_false, forall_eq_or_imp, forall_eq] at hm
  obtain ⟨m0, m1, m2, m3, m4, m5, m6, m7⟩ := hm
  rw [hL] at hs ⊢
  have d1 : decide ((L : Int) < 8) = false := by simp; omega
  have g : ∀ i, (ints .u8 (b0 :: b1 :: b2 :: b3 :: b4 :: b5 :: b6 :: b7 :: R)).getD i .any = (.v (.int .u8 b0) :: .v (.int .u8 b1) :: .v (.int .u8 b2) :: .v (.int .u8 b3) :: .v (.int .u8 b4) :: .v (.int .u8 b5) :: .v (.int .u8 b6) :: .v (.int .u8 b7) :: ints .u8 R).getD i .any := fun i => rfl
  have hbad : b0 + 256 * (b1 + 256 * (b2 + 256 * (b3 + 256 * (b4 + 256 * (b5 + 256 * (b6 + 256 * b7)))))) > 2147483647 → AV.tup [.v (.int .i64 0), .v (.bool false)] = AV.tup [.v (.int .i64 (decN (b0 :: b1 :: b2 :: b3 :: b4 :: b5 :: b6 :: b7 :: R))), .v (.bool (decB (b0 :: b1 :: b2 :: b3 :: b4 :: b5 :: b6 :: b7 :: R)))] := by
    intro h
    have hd : dec (b0 :: b1 :: b2 :: b3 :: b4 :: b5 :: b6 :: b7 :: R) = none := by unfold dec; rw [if_pos (.inr (by rw [hv]; exact h))]
    unfold decN decB
    rw [hd]
    rfl
  by_cases c7 : b7 > 0
  · have d7 : decide (b7 > 0) = true := by simpa using c7
    repeat (first
      | (with_reducible refine lops_step fun K hK => ?_; simp (disch := first | omega | (simp only [go_sem, isRow, isFlat, Option.isSome_some]; done) | assumption | (simp only [ints_length, List.length_replicate, List.length_set, List.length_append, List.length_take, List.length_drop, List.length_cons, List.length_nil] <;> omega) | fail) only [go_sem, Nat.reduceAdd, Nat.reduceSub, reduceIte, Nat.reduceEqDiff, Int.reduceToNat, Int.reduceBEq, Int.reduceBNe, d1, d7, Bool.not_true, Bool.not_false, if_true, if_false, Bool.false_eq_true, g, List.getD_cons_zero, List.getD_cons_succ, Int.reduceToNat]; (repeat (with_reducible refine And.intro (by first | omega | rfl | assumption | decide) ?_)); (first | (refine hK _ _ ?_) | (refine ⟨_, rfl, hK _ _ ?_⟩) | (refine Or.inl (hK _ _ ?_))); clear hK K)
      | (with_reducible refine lops_nil ?_)
      | (with_reducible refine lavc_reg ?_)
      | (with_reducible refine lavc_seq ?_)
      | (with_reducible refine lavc_block ?_)
      | (with_reducible refine lavc_skip ?_)
      | (with_reducible refine lavc_exit ?_)
      | (with_reducible refine lavc_ret ?_)
      | (with_reducible refine lavcR_round ?_)
      | (simp only [↓reduceIte, Nat.reduceEqDiff, reduceCtorEq]))
    refine lavc_cond rfl (fun _ => ?_) (fun hc => by cases hc)
    repeat (first
      | (with_reducible refine lops_step fun K hK => ?_; simp (disch := first | omega | (simp only [go_sem, isRow, isFlat, Option.isSome_some]; done) | assumption | (simp only [ints_length, List.length_replicate, List.length_set, List.length_append, List.length_take, List.length_drop, List.length_cons, List.length_nil] <;> omega) | fail) only [go_sem, Nat.reduceAdd, Nat.reduceSub, reduceIte, Nat.reduceEqDiff, Int.reduceToNat, Int.reduceBEq, Int.reduceBNe]; (repeat (with_reducible refine And.intro (by first | omega | rfl | assumption | decide) ?_)); (first | (refine hK _ _ ?_) | (refine ⟨_, rfl, hK _ _ ?_⟩) | (refine Or.inl (hK _ _ ?_))); clear hK K)
      | (with_reducible refine lops_nil ?_)
      | (with_reducible refine lavc_reg ?_)
      | (with_reducible refine lavc_seq ?_)
      | (with_reducible refine lavc_block ?_)
      | (with_reducible refine lavc_skip ?_)
      | (with_reducible refine lavc_exit ?_)
      | (with_reducible refine lavc_ret ?_)
      | (with_reducible refine lavcR_round ?_)
      | (simp only [↓reduceIte, Nat.reduceEqDiff, reduceCtorEq]))
    refine And.intro (by simp) ?_
    simp (disch := first | omega | (simp only [go_sem, isRow, isFlat, Option.isSome_some]; done) | assumption | (simp only [ints_length, List.length_replicate, List.length_set, List.length_append, List.length_take, List.length_drop, List.length_cons, List.length_nil] <;> omega) | fail) only [go_sem, Nat.reduceAdd, Nat.reduceSub, reduceIte, Nat.reduceEqDiff, Int.reduceToNat, Int.reduceBEq, Int.reduceBNe, aret, aretL, aret1, aenv]
    (repeat (with_reducible refine And.intro (by first | omega | rfl | assumption | decide) ?_))
    exact end0 (NR.tup (by simp [NR.v])) (hbad (by omega))
  have d7 : decide (b7 > 0) = false := by simpa using c7
  by_cases c6 : b6 > 0
  · have d6 : decide (b6 > 0) = true := by simpa using c6
    repeat (first
      | (with_reducible refine lops_step fun K hK => ?_; simp (disch := first | omega | (simp only [go_sem, isRow, isFlat, Option.isSome_some]; done) | assumption | (simp only [ints_length, List.length_replicate, List.length_set, List.length_append, List.length_take, List.length_drop, List.length_cons, List.length_nil] <;> omega) | fail) only [go_sem, Nat.reduceAdd, Nat.reduceSub, reduceIte, Nat.reduceEqDiff, Int.reduceToNat, Int.reduceBEq, Int.reduceBNe, d1, d7, d6, Bool.not_true, Bool.not_false, if_true, if_false, Bool.false_eq_true, g, List.getD_cons_zero, List.getD_cons_succ, Int.reduceToNat]; (repeat (with_reducible refine And.intro (by first | omega | rfl | assumption | decide) ?_)); (first | (refine hK _ _ ?_) | (refine ⟨_, rfl, hK _ _ ?_⟩) | (refine Or.inl (hK _ _ ?_))); clear hK K)
      | (with_reducible refine lops_nil ?_)
      | (with_reducible refine lavc_reg ?_)
      | (with_reducible refine lavc_seq ?_)
      | (with_reducible refine lavc_block ?_)
      | (with_reducible refine lavc_skip ?_)
      | (with_reducible refine lavc_exit ?_)
      | (with_reducible refine lavc_ret ?_)
      | (with_reducible refine lavcR_round ?_)
      | (simp only [↓reduceIte, Nat.reduceEqDiff, reduceCtorEq]))
    refine lavc_cond rfl (fun _ => ?_) (fun hc => by cases hc)
    repeat (first
      | (with_reducible refine lops_step fun K hK => ?_; simp (disch := first | omega | (simp only [go_sem, isRow, isFlat, Option.isSome_some]; done) | assumption | (simp only [ints_length, List.length_replicate, List.length_set, List.length_append, List.length_take, List.length_drop, List.length_cons, List.length_nil] <;> omega) | fail) only [go_sem, Nat.reduceAdd, Nat.reduceSub, reduceIte, Nat.reduceEqDiff, Int.reduceToNat, Int.reduceBEq, Int.reduceBNe]; (repeat (with_reducible refine And.intro (by first | omega | rfl | assumption | decide) ?_)); (first | (refine hK _ _ ?_) | (refine ⟨_, rfl, hK _ _ ?_⟩) | (refine Or.inl (hK _ _ ?_))); clear hK K)
      | (with_reducible refine lops_nil ?_)
      | (with_reducible refine lavc_reg ?_)
      | (with_reducible refine lavc_seq ?_)
      | (with_reducible refine lavc_block ?_)
      | (with_reducible refine lavc_skip ?_)
      | (with_reducible refine lavc_exit ?_)
      | (with_reducible refine lavc_ret ?_)
      | (with_reducible refine lavcR_round ?_)
      | (simp only [↓reduceIte, Nat.reduceEqDiff, reduceCtorEq]))
    refine And.intro (by simp) ?_
    simp (disch := first | omega | (simp only [go_sem, isRow, isFlat, Option.isSome_some]; done) | assumption | (simp only [ints_length, List.length_replicate, List.length_set, List.length_append, List.length_take, List.length_drop, List.length_cons, List.length_nil] <;> omega) | fail) only [go_sem, Nat.reduceAdd, Nat.reduceSub, reduceIte, Nat.reduceEqDiff, Int.reduceToNat, Int.reduceBEq, Int.reduceBNe, aret, aretL, aret1, aenv]
    (repeat (with_reducible refine And.intro (by first | omega | rfl | assumption | decide) ?_))
    exact end0 (NR.tup (by simp [NR.v])) (hbad (by omega))
  have d6 : decide (b6 > 0) = false := by simpa using c6
  by_cases c5 : b5 > 0
  · have d5 : decide (b5 > 0) = true := by simpa using c5
    repeat (first
      | (with_reducible refine lops_step fun K hK => ?_; simp (disch := first | omega | (simp only [go_sem, isRow, isFlat, Option.isSome_some]; done) | assumption | (simp only [ints_length, List.length_replicate, List.length_set, List.length_append, List.length_take, List.length_drop, List.length_cons, List.length_nil] <;> omega) | fail) only [go_sem, Nat.reduceAdd, Nat.reduceSub, reduceIte, Nat.reduceEqDiff, Int.reduceToNat, Int.reduceBEq, Int.reduceBNe, d1, d7, d6, d5, Bool.not_true, Bool.not_false, if_true, if_false, Bool.false_eq_true, g, List.getD_cons_zero, List.getD_cons_succ, Int.reduceToNat]; (repeat (with_reducible refine And.intro (by first | omega | rfl | assumption | decide) ?_)); (first | (refine hK _ _ ?_) | (refine ⟨_, rfl, hK _ _ ?_⟩) | (refine Or.inl (hK _ _ ?_))); clear hK K)
      | (with_reducible refine lops_nil ?_)
      | (with_reducible refine lavc_reg ?_)
      | (with_reducible refine lavc_seq ?_)
      | (with_reducible refine lavc_block ?_)
      | (with_reducible refine lavc_skip ?_)
      | (with_reducible refine lavc_exit ?_)
      | (with_reducible refine lavc_ret ?_)
      | (with_reducible refine lavcR_round ?_)
      | (simp only [↓reduceIte, Nat.reduceEqDiff, reduceCtorEq]))
    refine lavc_cond rfl (fun _ => ?_) (fun hc => by cases hc)
    repeat (first
      | (with_reducible refine lops_step fun K hK => ?_; simp (disch := first | omega | (simp only [go_sem, isRow, isFlat, Option.isSome_some]; done) | assumption | (simp only [ints_length, List.length_replicate, List.length_set, List.length_append, List.length_take, List.length_drop, List.length_cons, List.length_nil] <;> omega) | fail) only [go_sem, Nat.reduceAdd, Nat.reduceSub, reduceIte, Nat.reduceEqDiff, Int.reduceToNat, Int.reduceBEq, Int.reduceBNe]; (repeat (with_reducible refine And.intro (by first | omega | rfl | assumption | decide) ?_)); (first | (refine hK _ _ ?_) | (refine ⟨_, rfl, hK _ _ ?_⟩) | (refine Or.inl (hK _ _ ?_))); clear hK K)
      | (with_reducible refine lops_nil ?_)
      | (with_reducible refine lavc_reg ?_)
      | (with_reducible refine lavc_seq ?_)
      | (with_reducible refine lavc_block ?_)
      | (with_reducible refine lavc_skip ?_)
      | (with_reducible refine lavc_exit ?_)
      | (with_reducible refine lavc_ret ?_)
      | (with_reducible refine lavcR_round ?_)
      | (simp only [↓reduceIte, Nat.reduceEqDiff, reduceCtorEq]))
    refine And.intro (by simp) ?_
    simp (disch := first | omega | (simp only [go_sem, isRow, isFlat, Option.isSome_some]; done) | assumption | (simp only [ints_length, List.length_replicate, List.length_set, List.length_append, List.length_take, List.length_drop, List.length_cons, List.length_nil] <;> omega) | fail) only [go_sem, Nat.reduceAdd, Nat.reduceSub, reduceIte, Nat.reduceEqDiff, Int.reduceToNat, Int.reduceBEq, Int.reduceBNe, aret, aretL, aret1, aenv]
    (repeat (with_reducible refine And.intro (by first | omega | rfl | assumption | decide) ?_))
    exact end0 (NR.tup (by simp [NR.v])) (hbad (by omega))
  have d5 : decide (b5 > 0) = false := by simpa using c5
  by_cases c4 : b4 > 0
  · have d4 : decide (b4 > 0) = true := by simpa using c4
    repeat (first
      | (with_reducible refine lops_step fun K hK => ?_; simp (disch := first | omega | (simp only [go_sem, isRow, isFlat, Option.isSome_some]; done) | assumption | (simp only [ints_length, List.length_replicate, List.length_set, List.length_append, List.length_take, List.length_drop, List.length_cons, List.length_nil] <;> omega) | fail) only [go_sem, Nat.reduceAdd, Nat.reduceSub, reduceIte, Nat.reduceEqDiff, Int.reduceToNat, Int.reduceBEq, Int.reduceBNe, d1, d7, d6, d5, d4, Bool.not_true, Bool.not_false, if_true, if_false, Bool.false_eq_true, g, List.getD_cons_zero, List.getD_cons_succ, Int.reduceToNat]; (repeat (with_reducible refine And.intro (by first | omega | rfl | assumption | decide) ?_)); (first | (refine hK _ _ ?_) | (refine ⟨_, rfl, hK _ _ ?_⟩) | (refine Or.inl (hK _ _ ?_))); clear hK K)
      | (with_reducible refine lops_nil ?_)
      | (with_reducible refine lavc_reg ?_)
      | (with_reducible refine lavc_seq ?_)
      | (with_reducible refine lavc_block ?_)
      | (with_reducible refine lavc_skip ?_)
      | (with_reducible refine lavc_exit ?_)
      | (with_reducible refine lavc_ret ?_)
      | (with_reducible refine lavcR_round ?_)
      | (simp only [↓reduceIte, Nat.reduceEqDiff, reduceCtorEq]))
    refine lavc_cond rfl (fun _ => ?_) (fun hc => by cases hc)
    repeat (first
      | (with_reducible refine lops_step fun K hK => ?_; simp (disch := first | omega | (simp only [go_sem, isRow, isFlat, Option.isSome_some]; done) | assumption | (simp only [ints_length, List.length_replicate, List.length_set, List.length_append, List.length_take, List.length_drop, List.length_cons, List.length_nil] <;> omega) | fail) only [go_sem, Nat.reduceAdd, Nat.reduceSub, reduceIte, Nat.reduceEqDiff, Int.reduceToNat, Int.reduceBEq, Int.reduceBNe]; (repeat (with_reducible refine And.intro (by first | omega | rfl | assumption | decide) ?_)); (first | (refine hK _ _ ?_) | (refine ⟨_, rfl, hK _ _ ?_⟩) | (refine Or.inl (hK _ _ ?_))); clear hK K)
      | (with_reducible refine lops_nil ?_)
      | (with_reducible refine lavc_reg ?_)
      | (with_reducible refine lavc_seq ?_)
      | (with_reducible refine lavc_block ?_)
      | (with_reducible refine lavc_skip ?_)
      | (with_reducible refine lavc_exit ?_)
      | (with_reducible refine lavc_ret ?_)
      | (with_reducible refine lavcR_round ?_)
      | (simp only [↓reduceIte, Nat.reduceEqDiff, reduceCtorEq]))
    refine And.intro (by simp) ?_
    simp (disch := first | omega | (simp only [go_sem, isRow, isFlat, Option.isSome_some]; done) | assumption | (simp only [ints_length, List.length_replicate, List.length_set, List.length_append, List.length_take, List.length_drop, List.length_cons, List.length_nil] <;> omega) | fail) only [go_sem, Nat.reduceAdd, Nat.reduceSub, reduceIte, Nat.reduceEqDiff, Int.reduceToNat, Int.reduceBEq, Int.reduceBNe, aret, aretL, aret1, aenv]
    (repeat (with_reducible refine And.intro (by first | omega | rfl | assumption | decide) ?_))
    exact end0 (NR.tup (by simp [NR.v])) (hbad (by omega))
  have d4 : decide (b4 > 0) = false := by simpa using c4
  by_cases c3 : b3 > 127
  · have d3 : decide (b3 > 127) = true := by simpa using c3
    repeat (first
      | (with_reducible refine lops_step fun K hK => ?_; simp (disch := first | omega | (simp only [go_sem, isRow, isFlat, Option.isSome_some]; done) | assumption | (simp only [ints_length, List.length_replicate, List.length_set, List.length_append, List.length_take, List.length_drop, List.length_cons, List.length_nil] <;> omega) | fail) only [go_sem, Nat.reduceAdd, Nat.reduceSub, reduceIte, Nat.reduceEqDiff, Int.reduceToNat, Int.reduceBEq, Int.reduceBNe, d1, d7, d6, d5, d4, d3, Bool.not_true, Bool.not_false, if_true, if_false, Bool.false_eq_true, g, List.getD_cons_zero, List.getD_cons_succ, Int.reduceToNat]; (repeat (with_reducible refine And.intro (by first | omega | rfl | assumption | decide) ?_)); (first | (refine hK _ _ ?_) | (refine ⟨_, rfl, hK _ _ ?_⟩) | (refine Or.inl (hK _ _ ?_))); clear hK K)
      | (with_reducible refine lops_nil ?_)
      | (with_reducible refine lavc_reg ?_)
      | (with_reducible refine lavc_seq ?_)
      | (with_reducible refine lavc_block ?_)
      | (with_reducible refine lavc_skip ?_)
      | (with_reducible refine lavc_exit ?_)
      | (with_reducible refine lavc_ret ?_)
      | (with_reducible refine lavcR_round ?_)
      | (simp only [↓reduceIte, Nat.reduceEqDiff, reduceCtorEq]))
    refine lavc_cond rfl (fun _ => ?_) (fun hc => by cases hc)
    repeat (first
      | (with_reducible refine lops_step fun K hK => ?_; simp (disch := first | omega | (simp only [go_sem, isRow, isFlat, Option.isSome_some]; done) | assumption | (simp only [ints_length, List.length_replicate, List.length_set, List.length_append, List.length_take, List.length_drop, List.length_cons, List.length_nil] <;> omega) | fail) only [go_sem, Nat.reduceAdd, Nat.reduceSub, reduceIte, Nat.reduceEqDiff, Int.reduceToNat, Int.reduceBEq, Int.reduceBNe]; (repeat (with_reducible refine And.intro (by first | omega | rfl | assumption | decide) ?_)); (first | (refine hK _ _ ?_) | (refine ⟨_, rfl, hK _ _ ?_⟩) | (refine Or.inl (hK _ _ ?_))); clear hK K)
      | (with_reducible refine lops_nil ?_)
      | (with_reducible refine lavc_reg ?_)
      | (with_reducible refine lavc_seq ?_)
      | (with_reducible refine lavc_block ?_)
      | (with_reducible refine lavc_skip ?_)
      | (with_reducible refine lavc_exit ?_)
      | (with_reducible refine lavc_ret ?_)
      | (with_reducible refine lavcR_round ?_)
      | (simp only [↓reduceIte, Nat.reduceEqDiff, reduceCtorEq]))
    refine And.intro (by simp) ?_
    simp (disch := first | omega | (simp only [go_sem, isRow, isFlat, Option.isSome_some]; done) | assumption | (simp only [ints_length, List.length_replicate, List.length_set, List.length_append, List.length_take, List.length_drop, List.length_cons, List.length_nil] <;> omega) | fail) only [go_sem, Nat.reduceAdd, Nat.reduceSub, reduceIte, Nat.reduceEqDiff, Int.reduceToNat, Int.reduceBEq, Int.reduceBNe, aret, aretL, aret1, aenv]
    (repeat (with_reducible refine And.intro (by first | omega | rfl | assumption | decide) ?_))
    exact end0 (NR.tup (by simp [NR.v])) (hbad (by omega))
  have d3 : decide (b3 > 127) = false := by simpa using c3
  have hd : dec (b0 :: b1 :: b2 :: b3 :: b4 :: b5 :: b6 :: b7 :: R) = some ((b0 + 256 * (b1 + 256 * (b2 + 256 * (b3 + 256 * (b4 + 256 * (b5 + 256 * (b6 + 256 * b7))))))).toNat, R) := by
    unfold dec
    rw [if_neg (by rw [hv, hL]; omega), hv]
    rfl
  have w0 := i64z b0 (by omega)
  have w1 := i64z b1 (by omega)
  have w2 := i64z b2 (by omega)
  have w3 := i64z b3 (by omega)
  have x1 := i64z (b1 * 256) (by omega)
  have x2 := i64z (b2 * 65536) (by omega)
  have x3 := i64z (b3 * 16777216) (by omega)
  have y1 := i64z (b0 + b1 * 256) (by omega)
  have y2 := i64z (b0 + b1 * 256 + b2 * 65536) (by omega)
  have y3 := i64z (b0 + b1 * 256 + b2 * 65536 + b3 * 16777216) (by omega)
  repeat (first
    | (with_reducible refine lops_step fun K hK => ?_; simp (disch := first | omega | (simp only [go_sem, isRow, isFlat, Option.isSome_some]; done) | assumption | (simp only [ints_length, List.length_replicate, List.length_set, List.length_append, List.length_take, List.length_drop, List.length_cons, List.length_nil] <;> omega) | fail) only [go_sem, Nat.reduceAdd, Nat.reduceSub, reduceIte, Nat.reduceEqDiff, Int.reduceToNat, Int.reduceBEq, Int.reduceBNe, d1, d7, d6, d5, d4, d3, Bool.not_true, Bool.not_false, if_true, if_false, Bool.false_eq_true, g, List.getD_cons_zero, List.getD_cons_succ, Int.reduceToNat, w0, w1, w2, w3, x1, x2, x3, y1, y2, y3]; (repeat (with_reducible refine And.intro (by first | omega | rfl | assumption | decide) ?_)); (first | (refine hK _ _ ?_) | (refine ⟨_, rfl, hK _ _ ?_⟩) | (refine Or.inl (hK _ _ ?_))); clear hK K)
    | (with_reducible refine lops_nil ?_)
    | (with_reducible refine lavc_reg ?_)
    | (with_reducible refine lavc_seq ?_)
    | (with_reducible refine lavc_block ?_)
    | (with_reducible refine lavc_skip ?_)
    | (with_reducible refine lavc_exit ?_)
    | (with_reducible refine lavc_ret ?_)
    | (with_reducible refine lavcR_round ?_)
    | (simp only [↓reduceIte, Nat.reduceEqDiff, reduceCtorEq]))
  refine lavc_cond rfl (fun hc => by cases hc) (fun _ => ?_)
  repeat (first
    | (with_reducible refine lops_step fun K hK => ?_; simp (disch := first | omega | (simp only [go_sem, isRow, isFlat, Option.isSome_some]; done) | assumption | (simp only [ints_length, List.length_replicate, List.length_set, List.length_append, List.length_take, List.length_drop, List.length_cons, List.length_nil] <;> omega) | fail) only [go_sem, Nat.reduceAdd, Nat.reduceSub, reduceIte, Nat.reduceEqDiff, Int.reduceToNat, Int.reduceBEq, Int.reduceBNe, d1, d7, d6, d5, d4, d3, Bool.not_true, Bool.not_false, if_true, if_false, Bool.false_eq_true, g, List.getD_cons_zero, List.getD_cons_succ, Int.reduceToNat, w0, w1, w2, w3, x1, x2, x3, y1, y2, y3]; (repeat (with_reducible refine And.intro (by first | omega | rfl | assumption | decide) ?_)); (first | (refine hK _ _ ?_) | (refine ⟨_, rfl, hK _ _ ?_⟩) | (refine Or.inl (hK _ _ ?_))); clear hK K)
    | (with_reducible refine lops_nil ?_)
    | (with_reducible refine lavc_reg ?_)
    | (with_reducible refine lavc_seq ?_)
    | (with_reducible refine lavc_block ?_)
    | (with_reducible refine lavc_skip ?_)
    | (with_reducible refine lavc_exit ?_)
    | (with_reducible refine lavc_ret ?_)
    | (with_reducible refine lavcR_round ?_)
    | (simp only [↓reduceIte, Nat.reduceEqDiff, reduceCtorEq]))
  refine And.intro (by simp) ?_
  simp (disch := first | omega | (simp only [go_sem, isRow, isFlat, Option.isSome_some]; done) | assumption | (simp only [ints_length, List.length_replicate, List.length_set, List.length_append, List.length_take, List.length_drop, List.length_cons, List.length_nil] <;> omega) | fail) only [go_sem, Nat.reduceAdd, Nat.reduceSub, reduceIte, Nat.reduceEqDiff, Int.reduceToNat, Int.reduceBEq, Int.reduceBNe, aret, aretL, aret1, aenv]
  (repeat (with_reducible refine And.intro (by first | omega | rfl | assumption | decide) ?_))
  refine end0 (NR.tup (by simp [NR.v])) ?_
  unfold decN decB
  rw [hd]
  simp only [Option.isSome_some]
  congr 4
  omega
end Go.Abs.S
