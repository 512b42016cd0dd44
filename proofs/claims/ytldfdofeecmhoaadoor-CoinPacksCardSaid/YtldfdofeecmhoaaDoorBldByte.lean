/- WriteByte. -/
import Derived.Test.YtldfdofeecmhoaaDoorBld
namespace Go.Abs.S
attribute [local go_sem] lguard aopO aop nxL aenv toAV tput aLoad aStore vcells aBin aNilI aUn aAlloc aBox aBuild aBSlice afill aConv isIntT aappZ aCap aArr aMM aMake aSlice bnd3 bnd aFldAddr aFld aIdxAddr aIdx aExt aLen aCopy aEq0 bAV aUb aapp aappQ agh acont List.getD_cons_zero List.getD_cons_succ List.set_cons_zero List.set_cons_succ List.getElem?_cons_zero List.getElem?_cons_succ List.length_cons List.length_nil List.map_cons List.map_nil ints_length if_true if_false Bool.false_eq_true true_and and_true eq_self ne_eq not_false_eq_true not_true_eq_false beq_self_eq_true Nat.zero_add Nat.add_zero Nat.mul_one Nat.zero_mul Int.toNat_natCast List.toList_toArray List.all_cons List.all_nil AV.one Value.oneCell' Bool.and_true Bool.true_and forall_const true_implies false_implies implies_true Option.map_some Option.map_none Option.isSome_some Option.isSome_none imp_self rdP_flat rdP_row splice_one ints_set ints_get List.append_nil List.cons_append List.nil_append List.getElem?_toArray List.drop_zero ints_drop ints_take List.take_of_length_le splice_all ints_one Option.some.injEq Option.getD_some List.length_replicate zArr List.map_replicate rep_ints splice_intsR List.length_set List.length_append List.flatten_replicate_singleton rep_slice rep_string rep_bool rep_iface List.replicate_zero if_pos if_neg List.mapM_cons List.mapM_nil Option.pure_def Option.bind_eq_bind Option.bind_some Bool.true_eq_false Bool.not_false Bool.not_true get_concat set_concat
open Go.Proofs
set_option linter.unusedVariables false
set_option linter.unusedSimpArgs false
set_option maxRecDepth 100000
set_option maxHeartbeats 2000000
theorem WriteByte_a {H : AHeap} {b v b1 v1 n : Nat} {acc : List Int} {c : Int} (hb : H[b]? = some ⟨[.bad b v, .bsl b1 v1 n], v, true, 57⟩) (h1 : H[b1]? = some ⟨ints .u8 acc, v1, true, 5⟩) (hn : n = acc.length) (hl : acc.length + 1 ≤ 140737488355328) :
    ACall Tryd.prog glob false 29 [.ptr b v 0, .v (.int .u8 c)] H (.v .nilIface) ((H.set b1 ⟨ints .u8 (acc ++ [c]), v1 + 1, true, 5⟩).set b ⟨[.bad b v, .bsl b1 (v1 + 1) (n + 1)], v, true, 57⟩) := by
  have hne := ne_bld hb h1
  refine lcallk29 (by simp) ?_
  unfold lc29
  simp only [List.length_cons, List.length_nil, Nat.reduceAdd, Nat.reduceSub, List.replicate_succ, List.replicate_zero, List.cons_append, List.nil_append]
  repeat (first
    | (with_reducible refine lops_step fun K hK => ?_; simp (disch := first | omega | (simp only [go_sem, isRow, isFlat, Option.isSome_some]; done) | assumption | (simp only [ints_length, List.length_replicate, List.length_set, List.length_append, List.length_take, List.length_drop, List.length_cons, List.length_nil] <;> omega) | fail) only [go_sem, Nat.reduceAdd, Nat.reduceSub, reduceIte, Nat.reduceEqDiff, Int.reduceToNat, Int.reduceBEq, Int.reduceBNe, hb, h1, hn, List.getElem?_set_ne hne.symm]; (repeat (with_reducible refine And.intro (by first | omega | rfl | assumption | decide) ?_)); (first | (refine hK _ _ ?_) | (refine ⟨_, rfl, hK _ _ ?_⟩) | (refine Or.inr (hK _ _ ?_)) | (refine Or.inr ⟨rfl, hK _ _ ?_⟩) | (refine ⟨_, _, Or.inl (check_a hb), (by first | exact ⟨[], (List.append_nil _).symm⟩ | exact ⟨_, rfl⟩), hK _ _ ?_⟩) | (refine ⟨_, _, Or.inl (check_a hb), hK _ _ ?_⟩) | (refine ⟨_, _, Or.inl (check_a hb).weakQ, hK _ _ ?_⟩)); clear hK K)
    | (with_reducible refine lops_nil ?_)
    | (with_reducible refine lavc_reg ?_)
    | (with_reducible refine lavc_seq ?_)
    | (with_reducible refine lavc_block ?_)
    | (with_reducible refine lavc_skip ?_)
    | (with_reducible refine lavc_exit ?_)
    | (with_reducible refine lavc_ret ?_)
    | (with_reducible refine lavcR_round ?_)
    | (simp only [↓reduceIte, Nat.reduceEqDiff, reduceCtorEq]))
  refine And.intro (by simp) ?_
  simp (disch := first | omega | (simp only [go_sem, isRow, isFlat, Option.isSome_some]; done) | assumption | (simp only [ints_length, List.length_replicate, List.length_set, List.length_append, List.length_take, List.length_drop, List.length_cons, List.length_nil] <;> omega) | fail) only [go_sem, Nat.reduceAdd, Nat.reduceSub, reduceIte, Nat.reduceEqDiff, Int.reduceToNat, Int.reduceBEq, Int.reduceBNe, aret, aretL, aret1, aenv]
  (repeat (with_reducible refine And.intro (by first | omega | rfl | assumption | decide) ?_))
  have e : ((List.replicate 1 (0 : Int)).set 0 c) = [c] := rfl
  rw [e, ints_append, hn]
end Go.Abs.S
