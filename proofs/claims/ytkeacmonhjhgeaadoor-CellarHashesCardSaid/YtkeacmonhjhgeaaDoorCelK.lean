/- coin.Pack. -/
import Derived.Test.YtkeacmonhjhgeaaDoorCodA
import Derived.Test.YtkeacmonhjhgeaaDoorAbsCat
import Derived.Test.YtkeacmonhjhgeaaDoorAbsEight
import Derived.Test.YtkeacmonhjhgeaaDoorAbsJoin
namespace Go.Abs.S
attribute [local go_sem] lguard aopO aop nxL aenv toAV tput aLoad aStore vcells aBin aNilI aUn aAlloc aBox aBuild aBSlice afill aConv isIntT aappZ aCap aArr aMM aMake aSlice bnd3 bnd aFldAddr aFld aIdxAddr aIdx aExt aLen aCopy aEq0 bAV aUb aapp aappQ agh acont List.getD_cons_zero List.getD_cons_succ List.set_cons_zero List.set_cons_succ List.getElem?_cons_zero List.getElem?_cons_succ List.length_cons List.length_nil List.map_cons List.map_nil ints_length if_true if_false Bool.false_eq_true true_and and_true eq_self ne_eq not_false_eq_true not_true_eq_false beq_self_eq_true Nat.zero_add Nat.add_zero Nat.mul_one Nat.zero_mul Int.toNat_natCast List.toList_toArray List.all_cons List.all_nil AV.one Value.oneCell' Bool.and_true Bool.true_and forall_const true_implies false_implies implies_true Option.map_some Option.map_none Option.isSome_some Option.isSome_none imp_self rdP_flat rdP_row splice_one ints_set ints_get List.append_nil List.cons_append List.nil_append List.getElem?_toArray List.drop_zero ints_drop ints_take List.take_of_length_le splice_all ints_one Option.some.injEq Option.getD_some List.length_replicate zArr List.map_replicate rep_ints splice_intsR List.length_set List.length_append List.flatten_replicate_singleton rep_slice rep_string rep_bool rep_iface List.replicate_zero if_pos if_neg List.mapM_cons List.mapM_nil Option.pure_def Option.bind_eq_bind Option.bind_some Bool.true_eq_false Bool.not_false Bool.not_true get_concat set_concat
open Go.Proofs
set_option linter.unusedVariables false
set_option linter.unusedSimpArgs false
set_option maxRecDepth 100000
set_option maxHeartbeats 4000000
/-- Rows as one. -/
def packN (n : Nat) (rs : List (List Int)) : List Int := leN 8 n ++ rs.flatMap fun r => leN 8 r.length ++ r
def packP (rs : List (List Int)) : List Int := packN rs.length rs
theorem pack_p (rs : List (List Int)) (xs : List AV) (cx : Option Nat) (hr : Rws xs rs) (h1 : rs.length ≤ 1000) (h2 : ∀ r ∈ rs, r.length ≤ 1000) :
    PCall Tryd.prog glob 17 [.vsl rs.length xs cx] (.vsl (packP rs).length (ints .u8 (packP rs)) none) := by
  refine PCall.of ctx.nr (List.forall_mem_cons.2 ⟨NR.vsl hr.nr, fun _ h => absurd h List.not_mem_nil⟩) (NR.vsl (NR.ints _ _)) ?_
  refine lcall17 (by simp) 0 (Nat.le_refl _) ?_
  unfold lc17
  simp only [List.length_cons, List.length_nil, Nat.reduceAdd, Nat.reduceSub, List.replicate_succ, List.replicate_zero, List.cons_append, List.nil_append]
  have e0 := eight_p (rs.length : Int) (by omega) (by omega)
  repeat (first
    | (with_reducible refine lops_step fun K hK => ?_; simp (disch := first | omega | (simp only [go_sem, isRow, isFlat, Option.isSome_some]; done) | assumption | (simp only [ints_length, List.length_replicate, List.length_set, List.length_append, List.length_take, List.length_drop, List.length_cons, List.length_nil] <;> omega) | fail) only [go_sem, Nat.reduceAdd, Nat.reduceSub, reduceIte, Nat.reduceEqDiff, Int.reduceToNat, Int.reduceBEq, Int.reduceBNe]; (repeat (with_reducible refine And.intro (by first | omega | rfl | assumption | decide) ?_)); (first | (refine hK _ _ ?_) | (refine ⟨_, rfl, hK _ _ ?_⟩) | (refine Or.inl (hK _ _ ?_)) | (refine ⟨_, _, Or.inl (e0.go _), (by first | exact ⟨[], (List.append_nil _).symm⟩ | exact ⟨_, rfl⟩), hK _ _ ?_⟩) | (refine ⟨_, _, Or.inl (e0.go _), hK _ _ ?_⟩) | (refine ⟨_, _, Or.inl (e0.go _).weakQ, hK _ _ ?_⟩)); clear hK K)
    | (with_reducible refine lops_nil ?_)
    | (with_reducible refine lavc_reg ?_)
    | (with_reducible refine lavc_seq ?_)
    | (with_reducible refine lavc_block ?_)
    | (with_reducible refine lavc_skip ?_)
    | (with_reducible refine lavc_exit ?_)
    | (with_reducible refine lavc_ret ?_)
    | (with_reducible refine lavcR_round ?_)
    | (simp only [↓reduceIte, Nat.reduceEqDiff, reduceCtorEq]))
  refine lavc_loopM ms17_0 (fun m (i : Nat) => m + i = rs.length) (fun i => [(3, .vsl (packN rs.length (rs.take i)).length (ints .u8 (packN rs.length (rs.take i))) none), (11, .v (.int .i64 i))]) (fun _ => []) rs.length 0 (by omega) ?_ ?_ ?_
  · simp only [ms17_0, putAll, blank, List.foldl_cons, List.foldl_nil, List.set_cons_succ, List.set_cons_zero, List.cons_append, List.nil_append, ALe, true_or, or_true, and_true, true_and, eq_self, reduceCtorEq, false_or]
    have e : packN rs.length (rs.take 0) = leN 8 rs.length := by simp [packN]
    rw [e, leN_length]
    exact ⟨rfl, rfl⟩
  · rfl
  intro m i hi
  simp only [ms17_0, putAll, blank, List.foldl_cons, List.foldl_nil, List.set_cons_succ, List.set_cons_zero, List.cons_append, List.nil_append]
  repeat (first
    | (with_reducible refine lops_step fun K hK => ?_; simp (disch := first | omega | (simp only [go_sem, isRow, isFlat, Option.isSome_some]; done) | assumption | (simp only [ints_length, List.length_replicate, List.length_set, List.length_append, List.length_take, List.length_drop, List.length_cons, List.length_nil] <;> omega) | fail) only [go_sem, Nat.reduceAdd, Nat.reduceSub, reduceIte, Nat.reduceEqDiff, Int.reduceToNat, Int.reduceBEq, Int.reduceBNe]; (repeat (with_reducible refine And.intro (by first | omega | rfl | assumption | decide) ?_)); (first | (refine hK _ _ ?_) | (refine ⟨_, rfl, hK _ _ ?_⟩) | (refine Or.inl (hK _ _ ?_))); clear hK K)
    | (with_reducible refine lops_nil ?_)
    | (with_reducible refine lavc_reg ?_)
    | (with_reducible refine lavc_seq ?_)
    | (with_reducible refine lavc_block ?_)
    | (with_reducible refine lavc_skip ?_)
    | (with_reducible refine lavc_exit ?_)
    | (with_reducible refine lavc_ret ?_)
    | (with_reducible refine lavcR_round ?_)
    | (simp only [↓reduceIte, Nat.reduceEqDiff, reduceCtorEq]))
  refine lavc_cond rfl (fun hc => ?_) (fun hc => ?_) <;> try simp only [decide_eq_true_eq, decide_eq_false_iff_not, Int.not_lt, Int.not_le, beq_iff_eq, bne_iff_ne, bne_eq_false_iff_eq, beq_eq_false_iff_ne, ne_eq, Bool.not_eq_true', Bool.not_eq_false'] at hc
  · obtain ⟨ci, hci⟩ := hr.2 i (by omega)
    obtain ⟨r, hrr⟩ : ∃ r, rs.getD i [] = r := ⟨_, rfl⟩
    rw [hrr] at hci
    have hrl : r.length ≤ 1000 := by
      rw [← hrr, List.getD_eq_getElem?_getD, List.getElem?_eq_getElem (by omega)]
      exact h2 _ (List.getElem_mem _)
    have hxl : xs.length = rs.length := hr.1
    have e1 := eight_p (r.length : Int) (by omega) (by omega)
    have hpl : ∀ l : List (List Int), (∀ q ∈ l, q.length ≤ 1000) → (l.flatMap fun r => leN 8 r.length ++ r).length ≤ l.length * 1008 := by
      intro l
      induction l with
      | nil => simp
      | cons a l ih =>
        intro h
        have g1 := ih (fun q hq => h q (List.mem_cons_of_mem _ hq))
        have g2 := h a List.mem_cons_self
        rw [List.flatMap_cons, List.length_append, List.length_append, leN_length, List.length_cons]
        omega
    have hst : packN rs.length (rs.take (i + 1)) = packN rs.length (rs.take i) ++ (leN 8 r.length ++ r) := by
      have ht : rs.take (i + 1) = rs.take i ++ [r] := by
        rw [List.take_add_one, List.getElem?_eq_getElem (by omega), ← hrr, List.getD_eq_getElem?_getD, List.getElem?_eq_getElem (by omega)]
        rfl
      rw [ht]
      simp [packN]
    have hPl : (packN rs.length (rs.take (i + 1))).length ≤ 8 + rs.length * 1008 := by
      unfold packN
      have := hpl (rs.take (i + 1)) (fun q hq => h2 q (List.mem_of_mem_take hq))
      rw [List.length_append, leN_length]
      have : (rs.take (i + 1)).length ≤ rs.length := by rw [List.length_take]; omega
      omega
    obtain ⟨A, hA⟩ : ∃ A, packN rs.length (rs.take i) = A := ⟨_, rfl⟩
    rw [hA] at hst ⊢
    have hc := fun cx => concat_p [.vsl A.length (ints .u8 A) none, .vsl 8 (ints .u8 (leN 8 r.length)) none, .vsl r.length (ints .u8 r) ci] cx [A, leN 8 r.length, r] (Rws.cons rfl (Rws.cons (leN_length _ _) (Rws.cons rfl Rws.nil))) (packN rs.length (rs.take (i + 1))) (by rw [hst]; simp) (by omega) (by simp)
    have e3 := i64n ((i : Int) + 1) (i + 1) (by omega) (by omega)
    have one : ∀ x y z : AV, (((List.replicate 3 (AV.v (Value.slice none 0 0))).set 0 x).set 1 y).set 2 z = [x, y, z] := fun _ _ _ => rfl
    repeat (first
      | (with_reducible refine lops_step fun K hK => ?_; simp (disch := first | omega | (simp only [go_sem, isRow, isFlat, Option.isSome_some]; done) | assumption | (simp only [ints_length, List.length_replicate, List.length_set, List.length_append, List.length_take, List.length_drop, List.length_cons, List.length_nil] <;> omega) | fail) only [go_sem, Nat.reduceAdd, Nat.reduceSub, reduceIte, Nat.reduceEqDiff, Int.reduceToNat, Int.reduceBEq, Int.reduceBNe, hci, hxl, one, e3]; (repeat (with_reducible refine And.intro (by first | omega | rfl | assumption | decide) ?_)); (first | (refine hK _ _ ?_) | (refine ⟨_, rfl, hK _ _ ?_⟩) | (refine Or.inr (hK _ _ ?_)) | (refine Or.inr ⟨rfl, hK _ _ ?_⟩) | (refine ⟨_, _, Or.inl (e1.go _), (by first | exact ⟨[], (List.append_nil _).symm⟩ | exact ⟨_, rfl⟩), hK _ _ ?_⟩) | (refine ⟨_, _, Or.inl (e1.go _), hK _ _ ?_⟩) | (refine ⟨_, _, Or.inl (e1.go _).weakQ, hK _ _ ?_⟩) | (refine ⟨_, _, Or.inl ((hc _).go _), (by first | exact ⟨[], (List.append_nil _).symm⟩ | exact ⟨_, rfl⟩), hK _ _ ?_⟩) | (refine ⟨_, _, Or.inl ((hc _).go _), hK _ _ ?_⟩) | (refine ⟨_, _, Or.inl ((hc _).go _).weakQ, hK _ _ ?_⟩)); clear hK K)
      | (with_reducible refine lops_nil ?_)
      | (with_reducible refine lavc_reg ?_)
      | (with_reducible refine lavc_seq ?_)
      | (with_reducible refine lavc_block ?_)
      | (with_reducible refine lavc_skip ?_)
      | (with_reducible refine lavc_exit ?_)
      | (with_reducible refine lavc_ret ?_)
      | (with_reducible refine lavcR_round ?_)
      | (simp only [↓reduceIte, Nat.reduceEqDiff, reduceCtorEq]))
    refine ⟨m - 1, i + 1, by omega, by omega, ?_, trivial⟩
    simp only [ms17_0, putAll, blank, List.foldl_cons, List.foldl_nil, List.set_cons_succ, List.set_cons_zero, List.cons_append, List.nil_append, ALe, true_or, or_true, and_true, true_and, eq_self, reduceCtorEq, false_or]
  · obtain rfl : i = rs.length := by omega
    rw [List.take_length]
    repeat (first
      | (with_reducible refine lops_step fun K hK => ?_; simp (disch := first | omega | (simp only [go_sem, isRow, isFlat, Option.isSome_some]; done) | assumption | (simp only [ints_length, List.length_replicate, List.length_set, List.length_append, List.length_take, List.length_drop, List.length_cons, List.length_nil] <;> omega) | fail) only [go_sem, Nat.reduceAdd, Nat.reduceSub, reduceIte, Nat.reduceEqDiff, Int.reduceToNat, Int.reduceBEq, Int.reduceBNe]; (repeat (with_reducible refine And.intro (by first | omega | rfl | assumption | decide) ?_)); (first | (refine hK _ _ ?_) | (refine ⟨_, rfl, hK _ _ ?_⟩) | (refine Or.inl (hK _ _ ?_))); clear hK K)
      | (with_reducible refine lops_nil ?_)
      | (with_reducible refine lavc_reg ?_)
      | (with_reducible refine lavc_seq ?_)
      | (with_reducible refine lavc_block ?_)
      | (with_reducible refine lavc_skip ?_)
      | (with_reducible refine lavc_exit ?_)
      | (with_reducible refine lavc_ret ?_)
      | (with_reducible refine lavcR_round ?_)
      | (simp only [↓reduceIte, Nat.reduceEqDiff, reduceCtorEq]))
    refine And.intro (by simp) ?_
    simp (disch := first | omega | (simp only [go_sem, isRow, isFlat, Option.isSome_some]; done) | assumption | (simp only [ints_length, List.length_replicate, List.length_set, List.length_append, List.length_take, List.length_drop, List.length_cons, List.length_nil] <;> omega) | fail) only [go_sem, Nat.reduceAdd, Nat.reduceSub, reduceIte, Nat.reduceEqDiff, Int.reduceToNat, Int.reduceBEq, Int.reduceBNe, aret, aretL, aret1, aenv]
    (repeat (with_reducible refine And.intro (by first | omega | rfl | assumption | decide) ?_))
    exact end0 (NR.vsl (NR.ints _ _)) rfl
end Go.Abs.S
