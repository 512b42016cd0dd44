/- chacha's stirring, in the program: what its words are. -/
import Derived.Test.YtajkjhioihdncaaCodA
import Derived.Test.YtajkjhioihdncaaChaPure
namespace Go.Abs.S
attribute [local go_sem] lguard aopO aop nxL aenv toAV tput aLoad aStore vcells aBin aUn aAlloc aBox aBuild aBSlice afill aConv isIntT aappZ aCap aArr aMM aMake aSlice bnd3 bnd aFldAddr aFld aIdxAddr aIdx aExt aLen aCopy aapp aappQ agh acont List.getD_cons_zero List.getD_cons_succ List.set_cons_zero List.set_cons_succ List.getElem?_cons_zero List.getElem?_cons_succ List.length_cons List.length_nil List.map_cons List.map_nil ints_length if_true if_false Bool.false_eq_true true_and and_true eq_self ne_eq not_false_eq_true not_true_eq_false beq_self_eq_true Nat.zero_add Nat.add_zero Nat.mul_one Nat.zero_mul Int.toNat_natCast List.toList_toArray List.all_cons List.all_nil AV.one Value.oneCell' Bool.and_true Bool.true_and forall_const true_implies false_implies implies_true Option.map_some Option.map_none Option.isSome_some Option.isSome_none imp_self rdP_flat rdP_row splice_one ints_set ints_get List.append_nil List.cons_append List.nil_append List.getElem?_toArray List.drop_zero ints_drop ints_take List.take_of_length_le splice_all ints_one Option.some.injEq Option.getD_some List.length_replicate zArr List.map_replicate rep_ints splice_intsR List.length_set List.length_append List.flatten_replicate_singleton rep_slice rep_string rep_bool rep_iface List.replicate_zero if_pos if_neg List.mapM_cons List.mapM_nil Option.pure_def Option.bind_eq_bind Option.bind_some Bool.true_eq_false Bool.not_false Bool.not_true get_concat set_concat
open Go.Proofs
open Go.Proofs.Ytajkjhioihdncaa.Ext (W32 U32 turnN rot32 add32 xorI stepA stepD)
set_option linter.unusedVariables false
set_option linter.unusedSimpArgs false
set_option maxRecDepth 100000
theorem or32 (x y : Int) (i : Nat) (hx0 : 0 ≤ x) (hx : x % 2 ^ i = 0) (hx1 : x < 4294967296) (hy0 : 0 ≤ y) (hy : y < 2 ^ i) (hy1 : y < 4294967296) : bits .or .u32 x y = x + y :=
  bits_join .u32 32 (by decide) (fun n h0 h1 => by rw [IntKind.wrap_u32]; omega) i x y hx0 hx (by omega) hy0 hy (by omega)
theorem and16 : ibits .and .u64 (IntKind.u64.wrap (16 : Nat)) 31 = 16 := by decide
theorem and12 : ibits .and .u64 (IntKind.u64.wrap (12 : Nat)) 31 = 12 := by decide
theorem and8 : ibits .and .u64 (IntKind.u64.wrap (8 : Nat)) 31 = 8 := by decide
theorem and7 : ibits .and .u64 (IntKind.u64.wrap (7 : Nat)) 31 = 7 := by decide
theorem rot_p (x : Int) (n : Nat) (h : U32 x) (hn : turnN n) : PCall Try.prog glob 31 [.v (.int .u32 x), .v (.int .i64 n)] (.v (.int .u32 (rot32 x n))) := by
  obtain ⟨h0, h1⟩ := h
  refine PCall.of ctx.nr (by simp [NR.v]) (NR.v _) ?_
  rcases hn with rfl | rfl | rfl | rfl
  all_goals
    refine lcall31 (by simp) 0 (Nat.le_refl _) ?_
    unfold lc31
    simp only [List.length_cons, List.length_nil, Nat.reduceAdd, Nat.reduceSub, List.replicate_succ, List.replicate_zero, List.cons_append, List.nil_append]
    repeat (first
      | (with_reducible refine lops_step fun K hK => ?_; simp (disch := first | omega | (simp only [go_sem, isRow, isFlat, Option.isSome_some]; done) | assumption | (simp only [ints_length, List.length_replicate, List.length_set, List.length_append, List.length_take, List.length_drop, List.length_cons, List.length_nil] <;> omega) | fail) only [go_sem, Nat.reduceAdd, Nat.reduceSub, reduceIte, Nat.reduceEqDiff, Int.reduceToNat]; (repeat (with_reducible refine And.intro (by first | omega | rfl | assumption | decide) ?_)); (first | (refine hK _ _ ?_) | (refine ⟨_, rfl, hK _ _ ?_⟩) | (refine Or.inl (hK _ _ ?_))); clear hK K)
      | (with_reducible refine lops_nil ?_)
      | (with_reducible refine lavc_reg ?_)
      | (with_reducible refine lavc_seq ?_)
      | (with_reducible refine lavc_block ?_)
      | (with_reducible refine lavc_skip ?_)
      | (with_reducible refine lavc_exit ?_)
      | (with_reducible refine lavc_ret ?_)
      | (simp only [↓reduceIte, Nat.reduceEqDiff, reduceCtorEq]))
    refine And.intro (by simp) ?_
    simp (disch := first | omega | (simp only [go_sem, isRow, isFlat, Option.isSome_some]; done) | assumption | (simp only [ints_length, List.length_replicate, List.length_set, List.length_append, List.length_take, List.length_drop, List.length_cons, List.length_nil] <;> omega) | fail) only [go_sem, Nat.reduceAdd, Nat.reduceSub, reduceIte, Nat.reduceEqDiff, Int.reduceToNat, aret, aretL, aret1, aenv]
    (repeat (with_reducible refine And.intro (by first | omega | rfl | assumption | decide) ?_))
    refine end0 (NR.v _) (congrArg (fun z => AV.v (Value.int .u32 z)) ?_)
    simp only [and16, and12, and8, and7, ibits_or]
    simp (disch := decide) only [shlI_le, shrI_le, IntKind.wrap_u64, IntKind.wrap_u32, Int.reduceSub, Int.reduceToNat, Int.reduceMod, Int.reducePow, rot32, Nat.reduceSub]
  · rw [or32 _ _ 16 (by omega) (by omega) (by omega) (by omega) (by omega) (by omega)]
    omega
  · rw [or32 _ _ 12 (by omega) (by omega) (by omega) (by omega) (by omega) (by omega)]
    omega
  · rw [or32 _ _ 8 (by omega) (by omega) (by omega) (by omega) (by omega) (by omega)]
    omega
  · rw [or32 _ _ 7 (by omega) (by omega) (by omega) (by omega) (by omega) (by omega)]
    omega
theorem step_m (l : List Int) (i j d n v e : Nat) (hl : l.length = 16) (hw : W32 l) (hi : i < 16) (hj : j < 16) (hd : d < 16) (hn : turnN n) :
    MCall Try.prog glob 29 [.v (.int .i64 i), .v (.int .i64 j), .v (.int .i64 d), .v (.int .i64 n)] ⟨ints .u32 l, v, true, e⟩ (.tup []) ⟨ints .u32 (Ytajkjhioihdncaa.Ext.step l i j d n), v, true, e⟩ := by
  refine MCall.of ctx.nr rfl rfl (by simp [NR.v]) NR.tup0 (NR.ints _ _) (NR.ints _ _) ?_
  refine lcall29 (by simp) 1 (Nat.le_refl _) ?_
  unfold lc29
  simp only [List.length_cons, List.length_nil, Nat.reduceAdd, Nat.reduceSub, List.replicate_succ, List.replicate_zero, List.cons_append, List.nil_append]
  have e1 : ∀ a b : Int, IntKind.u32.wrap (a + b) = add32 a b := fun a b => IntKind.wrap_u32 _
  have e0 : l.set i (add32 (l.getD i 0) (l.getD j 0)) = stepA l i j := rfl
  have hl1 : (stepA l i j).length = 16 := (Ytajkjhioihdncaa.Ext.stepA_length _ _ _).trans hl
  have hw1 : W32 (stepA l i j) := hw.stepA i j
  have e2 : ibits .xor .u32 ((stepA l i j).getD d 0) ((stepA l i j).getD i 0) = xorI ((stepA l i j).getD d 0) ((stepA l i j).getD i 0) := u32_xor _ _ (hw1.get d).1 (hw1.get d).2 (hw1.get i).1 (hw1.get i).2
  have c := rot_p _ n ((hw1.get d).xor (hw1.get i)) hn
  repeat (first
    | (with_reducible refine lops_step fun K hK => ?_; simp (disch := first | omega | (simp only [go_sem, isRow, isFlat, Option.isSome_some]; done) | assumption | (simp only [ints_length, List.length_replicate, List.length_set, List.length_append, List.length_take, List.length_drop, List.length_cons, List.length_nil] <;> omega) | fail) only [go_sem, Nat.reduceAdd, Nat.reduceSub, reduceIte, Nat.reduceEqDiff, Int.reduceToNat, e0, e1, e2]; (repeat (with_reducible refine And.intro (by first | omega | rfl | assumption | decide) ?_)); (first | (refine hK _ _ ?_) | (refine ⟨_, rfl, hK _ _ ?_⟩) | (refine Or.inl (hK _ _ ?_)) | (refine ⟨_, _, c.go _, (by first | exact ⟨[], (List.append_nil _).symm⟩ | exact ⟨_, rfl⟩), hK _ _ ?_⟩) | (refine ⟨_, _, c.go _, hK _ _ ?_⟩) | (refine ⟨_, _, (c.go _).weakQ, hK _ _ ?_⟩)); clear hK K)
    | (with_reducible refine lops_nil ?_)
    | (with_reducible refine lavc_reg ?_)
    | (with_reducible refine lavc_seq ?_)
    | (with_reducible refine lavc_block ?_)
    | (with_reducible refine lavc_skip ?_)
    | (with_reducible refine lavc_exit ?_)
    | (with_reducible refine lavc_ret ?_)
    | (simp only [↓reduceIte, Nat.reduceEqDiff, reduceCtorEq]))
  refine And.intro (by simp) ?_
  simp (disch := first | omega | (simp only [go_sem, isRow, isFlat, Option.isSome_some]; done) | assumption | (simp only [ints_length, List.length_replicate, List.length_set, List.length_append, List.length_take, List.length_drop, List.length_cons, List.length_nil] <;> omega) | fail) only [go_sem, Nat.reduceAdd, Nat.reduceSub, reduceIte, Nat.reduceEqDiff, Int.reduceToNat, aret, aretL, aret1, aenv]
  (repeat (with_reducible refine And.intro (by first | omega | rfl | assumption | decide) ?_))
  exact end1 NR.tup0 rfl (NR.ints _ _) rfl
theorem quarter_m (l : List Int) (a b c d v e : Nat) (hl : l.length = 16) (hw : W32 l) (ha : a < 16) (hb : b < 16) (hc : c < 16) (hd : d < 16) :
    MCall Try.prog glob 25 [.v (.int .i64 a), .v (.int .i64 b), .v (.int .i64 c), .v (.int .i64 d)] ⟨ints .u32 l, v, true, e⟩ (.tup []) ⟨ints .u32 (Ytajkjhioihdncaa.Ext.quarter l a b c d), v, true, e⟩ := by
  refine MCall.of ctx.nr rfl rfl (by simp [NR.v]) NR.tup0 (NR.ints _ _) (NR.ints _ _) ?_
  refine lcall25 (by simp) 1 (Nat.le_refl _) ?_
  unfold lc25
  simp only [List.length_cons, List.length_nil, Nat.reduceAdd, Nat.reduceSub, List.replicate_succ, List.replicate_zero, List.cons_append, List.nil_append]
  have w1 := hw.step a b d (n := 16) (.inl rfl)
  have w2 := w1.step c d b (n := 12) (.inr (.inl rfl))
  have w3 := w2.step a b d (n := 8) (.inr (.inr (.inl rfl)))
  have l1 := (Ytajkjhioihdncaa.Ext.step_length l a b d 16).trans hl
  have l2 := (Ytajkjhioihdncaa.Ext.step_length _ c d b 12).trans l1
  have l3 := (Ytajkjhioihdncaa.Ext.step_length _ a b d 8).trans l2
  have c1 := step_m l a b d 16 v e hl hw ha hb hd (.inl rfl)
  have c2 := step_m _ c d b 12 v e l1 w1 hc hd hb (.inr (.inl rfl))
  have c3 := step_m _ a b d 8 v e l2 w2 ha hb hd (.inr (.inr (.inl rfl)))
  have c4 := step_m _ c d b 7 v e l3 w3 hc hd hb (.inr (.inr (.inr rfl)))
  repeat (first
    | (with_reducible refine lops_step fun K hK => ?_; simp (disch := first | omega | (simp only [go_sem, isRow, isFlat, Option.isSome_some]; done) | assumption | (simp only [ints_length, List.length_replicate, List.length_set, List.length_append, List.length_take, List.length_drop, List.length_cons, List.length_nil] <;> omega) | fail) only [go_sem, Nat.reduceAdd, Nat.reduceSub, reduceIte, Nat.reduceEqDiff, Int.reduceToNat]; (repeat (with_reducible refine And.intro (by first | omega | rfl | assumption | decide) ?_)); (first | (refine hK _ _ ?_) | (refine ⟨_, rfl, hK _ _ ?_⟩) | (refine Or.inl (hK _ _ ?_)) | (refine ⟨_, _, c1.go _ _ rfl, (by first | exact ⟨[], (List.append_nil _).symm⟩ | exact ⟨_, rfl⟩), hK _ _ ?_⟩) | (refine ⟨_, _, c1.go _ _ rfl, hK _ _ ?_⟩) | (refine ⟨_, _, (c1.go _ _ rfl).weakQ, hK _ _ ?_⟩) | (refine ⟨_, _, c2.go _ _ rfl, (by first | exact ⟨[], (List.append_nil _).symm⟩ | exact ⟨_, rfl⟩), hK _ _ ?_⟩) | (refine ⟨_, _, c2.go _ _ rfl, hK _ _ ?_⟩) | (refine ⟨_, _, (c2.go _ _ rfl).weakQ, hK _ _ ?_⟩) | (refine ⟨_, _, c3.go _ _ rfl, (by first | exact ⟨[], (List.append_nil _).symm⟩ | exact ⟨_, rfl⟩), hK _ _ ?_⟩) | (refine ⟨_, _, c3.go _ _ rfl, hK _ _ ?_⟩) | (refine ⟨_, _, (c3.go _ _ rfl).weakQ, hK _ _ ?_⟩) | (refine ⟨_, _, c4.go _ _ rfl, (by first | exact ⟨[], (List.append_nil _).symm⟩ | exact ⟨_, rfl⟩), hK _ _ ?_⟩) | (refine ⟨_, _, c4.go _ _ rfl, hK _ _ ?_⟩) | (refine ⟨_, _, (c4.go _ _ rfl).weakQ, hK _ _ ?_⟩)); clear hK K)
    | (with_reducible refine lops_nil ?_)
    | (with_reducible refine lavc_reg ?_)
    | (with_reducible refine lavc_seq ?_)
    | (with_reducible refine lavc_block ?_)
    | (with_reducible refine lavc_skip ?_)
    | (with_reducible refine lavc_exit ?_)
    | (with_reducible refine lavc_ret ?_)
    | (simp only [↓reduceIte, Nat.reduceEqDiff, reduceCtorEq]))
  refine And.intro (by simp) ?_
  simp (disch := first | omega | (simp only [go_sem, isRow, isFlat, Option.isSome_some]; done) | assumption | (simp only [ints_length, List.length_replicate, List.length_set, List.length_append, List.length_take, List.length_drop, List.length_cons, List.length_nil] <;> omega) | fail) only [go_sem, Nat.reduceAdd, Nat.reduceSub, reduceIte, Nat.reduceEqDiff, Int.reduceToNat, aret, aretL, aret1, aenv]
  (repeat (with_reducible refine And.intro (by first | omega | rfl | assumption | decide) ?_))
  exact end1 NR.tup0 rfl (NR.ints _ _) rfl
end Go.Abs.S
