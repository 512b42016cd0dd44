/- The document's Pack. cellar: the document's sum and draw. cellar: the document's blocks, plainly: all lanes in one row. -/
import Derived.Test.YtkeacmonhjhgeaaDoorCodP
import Derived.Test.YtkeacmonhjhgeaaDoorCelK
import Derived.Test.YtkeacmonhjhgeaaDoorCelNR
namespace Go.Abs.S
attribute [local go_sem] lguard aopO aop nxL aenv toAV tput aLoad aStore vcells aBin aNilI aUn aAlloc aBox aBuild aBSlice afill aConv isIntT aappZ aCap aArr aMM aMake aSlice bnd3 bnd aFldAddr aFld aIdxAddr aIdx aExt aLen aCopy aEq0 bAV aUb aapp aappQ agh acont List.getD_cons_zero List.getD_cons_succ List.set_cons_zero List.set_cons_succ List.getElem?_cons_zero List.getElem?_cons_succ List.length_cons List.length_nil List.map_cons List.map_nil ints_length if_true if_false Bool.false_eq_true true_and and_true eq_self ne_eq not_false_eq_true not_true_eq_false beq_self_eq_true Nat.zero_add Nat.add_zero Nat.mul_one Nat.zero_mul Int.toNat_natCast List.toList_toArray List.all_cons List.all_nil AV.one Value.oneCell' Bool.and_true Bool.true_and forall_const true_implies false_implies implies_true Option.map_some Option.map_none Option.isSome_some Option.isSome_none imp_self rdP_flat rdP_row splice_one ints_set ints_get List.append_nil List.cons_append List.nil_append List.getElem?_toArray List.drop_zero ints_drop ints_take List.take_of_length_le splice_all ints_one Option.some.injEq Option.getD_some List.length_replicate zArr List.map_replicate rep_ints splice_intsR List.length_set List.length_append List.flatten_replicate_singleton rep_slice rep_string rep_bool rep_iface List.replicate_zero if_pos if_neg List.mapM_cons List.mapM_nil Option.pure_def Option.bind_eq_bind Option.bind_some Bool.true_eq_false Bool.not_false Bool.not_true get_concat set_concat
open Go.Proofs
set_option linter.unusedVariables false
set_option linter.unusedSimpArgs false
set_option maxRecDepth 100000
set_option maxHeartbeats 4000000
theorem refEight_p (n0 : Int) (h0 : 0 ≤ n0) (h1 : n0 ≤ 9223372036854775807) : PCall Tryd.prog glob 19 [.v (.int .i64 n0)] (.vsl 8 (ints .u8 (leN 8 n0)) none) := by
  have h := NCall.view ctx.nr (refEight_n n0 h0 h1) (List.forall_mem_cons.2 ⟨NR.v _, fun _ h => absurd h List.not_mem_nil⟩) (NR.ints _ _) (Nat.le_refl _) (by simp [ints_length, leN_length])
  rwa [List.take_of_length_le (by simp [ints_length, leN_length])] at h
theorem packN_step (n : Nat) (rs : List (List Int)) (i : Nat) (hi : i < rs.length) : packN n (rs.take (i + 1)) = packN n (rs.take i) ++ (leN 8 (rs.getD i []).length ++ rs.getD i []) := by
  have ht : rs.take (i + 1) = rs.take i ++ [rs.getD i []] := by
    rw [List.take_add_one, List.getElem?_eq_getElem hi, List.getD_eq_getElem?_getD, List.getElem?_eq_getElem hi]
    rfl
  rw [ht]
  simp [packN]
theorem packN_le (n : Nat) (rs : List (List Int)) (h : ∀ q ∈ rs, q.length ≤ 1000) : (packN n rs).length ≤ 8 + rs.length * 1008 := by
  unfold packN
  rw [List.length_append, leN_length]
  have : ∀ l : List (List Int), (∀ q ∈ l, q.length ≤ 1000) → (l.flatMap fun r => leN 8 r.length ++ r).length ≤ l.length * 1008 := by
    intro l
    induction l with
    | nil => simp
    | cons a l ih =>
      intro h
      have g1 := ih (fun q hq => h q (List.mem_cons_of_mem _ hq))
      have g2 := h a List.mem_cons_self
      rw [List.flatMap_cons, List.length_append, List.length_append, leN_length, List.length_cons]
      omega
  have := this rs h
  omega
theorem refPack_p (rs : List (List Int)) (xs : List AV) (cx : Option Nat) (hr : Rws xs rs) (h1 : rs.length ≤ 1000) (h2 : ∀ r ∈ rs, r.length ≤ 1000) :
    PCall Tryd.prog glob 23 [.vsl rs.length xs cx] (.vsl (packP rs).length (ints .u8 (packP rs)) none) := by
  refine PCall.of ctx.nr (List.forall_mem_cons.2 ⟨NR.vsl hr.nr, fun _ h => absurd h List.not_mem_nil⟩) (NR.vsl (NR.ints _ _)) ?_
  refine lcall23 (by simp) 0 (Nat.le_refl _) ?_
  unfold lc23
  simp only [List.length_cons, List.length_nil, Nat.reduceAdd, Nat.reduceSub, List.replicate_succ, List.replicate_zero, List.cons_append, List.nil_append]
  have e0 := refEight_n (rs.length : Int) (by omega) (by omega)
  repeat (first
    | (with_reducible refine lops_step fun K hK => ?_; simp (disch := first | omega | (simp only [go_sem, isRow, isFlat, Option.isSome_some]; done) | assumption | (simp only [ints_length, List.length_replicate, List.length_set, List.length_append, List.length_take, List.length_drop, List.length_cons, List.length_nil] <;> omega) | fail) only [go_sem, Nat.reduceAdd, Nat.reduceSub, reduceIte, Nat.reduceEqDiff, Int.reduceToNat, Int.reduceBEq, Int.reduceBNe]; (repeat (with_reducible refine And.intro (by first | omega | rfl | assumption | decide) ?_)); (first | (refine hK _ _ ?_) | (refine ⟨_, rfl, hK _ _ ?_⟩) | (refine Or.inl (hK _ _ ?_)) | (refine ⟨_, _, Or.inl ((e0.go _).weakQ), (by first | exact ⟨[], (List.append_nil _).symm⟩ | exact ⟨_, rfl⟩), hK _ _ ?_⟩) | (refine ⟨_, _, Or.inl ((e0.go _).weakQ), hK _ _ ?_⟩) | (refine ⟨_, _, Or.inl ((e0.go _).weakQ).weakQ, hK _ _ ?_⟩)); clear hK K)
    | (with_reducible refine lops_nil ?_)
    | (with_reducible refine lavc_reg ?_)
    | (with_reducible refine lavc_seq ?_)
    | (with_reducible refine lavc_block ?_)
    | (with_reducible refine lavc_skip ?_)
    | (with_reducible refine lavc_exit ?_)
    | (with_reducible refine lavc_ret ?_)
    | (with_reducible refine lavcR_round ?_)
    | (simp only [↓reduceIte, Nat.reduceEqDiff, reduceCtorEq]))
  refine lavc_loopM ms23_0 (fun m (x : Nat × Nat × AHeap) => m + x.1 = rs.length) (fun x => [(3, .sl 0 x.2.1 0 (packN rs.length (rs.take x.1)).length (packN rs.length (rs.take x.1)).length 1 false), (10, .v (.int .i64 x.1))]) (fun x => ⟨ints .u8 (packN rs.length (rs.take x.1)), x.2.1, true, 5⟩ :: x.2.2) rs.length (0, 0, []) (by omega) ?_ ?_ ?_
  · simp only [ms23_0, putAll, blank, List.foldl_cons, List.foldl_nil, List.set_cons_succ, List.set_cons_zero, List.cons_append, List.nil_append, ALe, true_or, or_true, and_true, true_and, eq_self, reduceCtorEq, false_or]
    have e : packN rs.length (rs.take 0) = leN 8 rs.length := by simp [packN]
    rw [e, leN_length]
    exact ⟨rfl, rfl⟩
  · have e : packN rs.length (rs.take 0) = leN 8 rs.length := by simp [packN]
    simp only [e]
  rintro m ⟨i, v, gg⟩ hi
  simp only at hi ⊢
  simp only [ms23_0, putAll, blank, List.foldl_cons, List.foldl_nil, List.set_cons_succ, List.set_cons_zero, List.cons_append, List.nil_append]
  repeat (first
    | (with_reducible refine lops_step fun K hK => ?_; simp (disch := first | omega | (simp only [go_sem, isRow, isFlat, Option.isSome_some]; done) | assumption | (simp only [ints_length, List.length_replicate, List.length_set, List.length_append, List.length_take, List.length_drop, List.length_cons, List.length_nil] <;> omega) | fail) only [go_sem, Nat.reduceAdd, Nat.reduceSub, reduceIte, Nat.reduceEqDiff, Int.reduceToNat, Int.reduceBEq, Int.reduceBNe]; (repeat (with_reducible refine And.intro (by first | omega | rfl | assumption | decide) ?_)); (first | (refine hK _ _ ?_) | (refine ⟨_, rfl, hK _ _ ?_⟩) | (refine Or.inl (hK _ _ ?_))); clear hK K)
    | (with_reducible refine lops_nil ?_)
    | (with_reducible refine lavc_reg ?_)
    | (with_reducible refine lavc_seq ?_)
    | (with_reducible refine lavc_block ?_)
    | (with_reducible refine lavc_skip ?_)
    | (with_reducible refine lavc_exit ?_)
    | (with_reducible refine lavc_ret ?_)
    | (with_reducible refine lavcR_round ?_)
    | (simp only [↓reduceIte, Nat.reduceEqDiff, reduceCtorEq]))
  refine lavc_cond rfl (fun hc => ?_) (fun hc => ?_) <;> try simp only [decide_eq_true_eq, decide_eq_false_iff_not, Int.not_lt, Int.not_le, beq_iff_eq, bne_iff_ne, bne_eq_false_iff_eq, beq_eq_false_iff_ne, ne_eq, Bool.not_eq_true', Bool.not_eq_false'] at hc
  · obtain ⟨ci, hci⟩ := hr.2 i (by omega)
    have hst := packN_step rs.length rs i (by omega)
    have hPl := packN_le rs.length (rs.take (i + 1)) (fun q hq => h2 q (List.mem_of_mem_take hq))
    have hPt : (rs.take (i + 1)).length ≤ rs.length := by rw [List.length_take]; omega
    obtain ⟨r, hrr⟩ : ∃ r, rs.getD i [] = r := ⟨_, rfl⟩
    rw [hrr] at hci hst
    have hrl : r.length ≤ 1000 := by
      rw [← hrr, List.getD_eq_getElem?_getD, List.getElem?_eq_getElem (by omega)]
      exact h2 _ (List.getElem_mem _)
    have hxl : xs.length = rs.length := hr.1
    have e1 := refEight_p (r.length : Int) (by omega) (by omega)
    have e3 := i64n ((i : Int) + 1) (i + 1) (by omega) (by omega)
    obtain ⟨A, hA⟩ : ∃ A, packN rs.length (rs.take i) = A := ⟨_, rfl⟩
    obtain ⟨B, hB⟩ : ∃ B, packN rs.length (rs.take (i + 1)) = B := ⟨_, rfl⟩
    rw [hA, hB] at hst
    rw [hB] at hPl
    rw [hA]
    have hBl : B.length = A.length + (8 + r.length) := by rw [hst, List.length_append, List.length_append, leN_length]
    have n1 : NR (.vsl rs.length xs cx) := NR.vsl hr.nr
    have n2 : NR (.vptr xs i) := NR.vptr hr.nr
    repeat (first
      | (with_reducible refine lops_step fun K hK => ?_; simp (disch := first | omega | (simp only [go_sem, isRow, isFlat, Option.isSome_some]; done) | assumption | (simp only [ints_length, List.length_replicate, List.length_set, List.length_append, List.length_take, List.length_drop, List.length_cons, List.length_nil] <;> omega) | fail) only [go_sem, Nat.reduceAdd, Nat.reduceSub, reduceIte, Nat.reduceEqDiff, Int.reduceToNat, Int.reduceBEq, Int.reduceBNe]; (repeat (with_reducible refine And.intro (by first | omega | rfl | assumption | decide) ?_)); (first | (refine hK _ _ ?_) | (refine ⟨_, rfl, hK _ _ ?_⟩) | (refine Or.inl (hK _ _ ?_))); clear hK K)
      | (with_reducible refine lops_nil ?_)
      | (with_reducible refine lavc_reg ?_)
      | (with_reducible refine lavc_seq ?_)
      | (with_reducible refine lavc_block ?_)
      | (with_reducible refine lavc_skip ?_)
      | (with_reducible refine lavc_exit ?_)
      | (with_reducible refine lavc_ret ?_)
      | (with_reducible refine lavcR_round ?_)
      | (simp only [↓reduceIte, Nat.reduceEqDiff, reduceCtorEq]))
    refine lavc_late ctx.nr [.vsl rs.length xs cx, .v (.int .i64 i), .vptr xs i, .vsl r.length (ints .u8 r) ci] ?_ ?_ <;> simp only [lputs, tput, List.set_cons_succ, List.set_cons_zero]
    · refine And.intro ⟨.vsl rs.length xs cx, n1, ?_, ?_, fun d h => by cases h; rfl⟩ ?_
      · intro x hx
        simp only [Op.operands, Array.mem_def, List.mem_cons, List.mem_singleton, List.not_mem_nil, or_false] at hx
        (first | subst hx | (rcases hx with rfl | rfl))
        all_goals (first | exact NR.v _ | assumption)
      · unfold aopO
        simp (disch := first | omega | (simp only [go_sem, isRow, isFlat, Option.isSome_some]; done) | assumption | (simp only [ints_length, List.length_replicate, List.length_set, List.length_append, List.length_take, List.length_drop, List.length_cons, List.length_nil] <;> omega) | fail) only [go_sem, Nat.reduceAdd, Nat.reduceSub, reduceIte, Nat.reduceEqDiff, Int.reduceToNat, Int.reduceBEq, Int.reduceBNe]
        (repeat (with_reducible refine And.intro (by first | omega | rfl | assumption | decide) ?_))
        try first | exact ⟨rfl, rfl⟩ | trivial | omega
      refine And.intro ⟨.v (.int .i64 i), NR.v _, ?_, ?_, fun d h => by cases h; rfl⟩ ?_
      · intro x hx
        simp only [Op.operands, Array.mem_def, List.mem_cons, List.mem_singleton, List.not_mem_nil, or_false] at hx
        (first | subst hx | (rcases hx with rfl | rfl))
        all_goals (first | exact NR.v _ | assumption)
      · unfold aopO
        simp (disch := first | omega | (simp only [go_sem, isRow, isFlat, Option.isSome_some]; done) | assumption | (simp only [ints_length, List.length_replicate, List.length_set, List.length_append, List.length_take, List.length_drop, List.length_cons, List.length_nil] <;> omega) | fail) only [go_sem, Nat.reduceAdd, Nat.reduceSub, reduceIte, Nat.reduceEqDiff, Int.reduceToNat, Int.reduceBEq, Int.reduceBNe]
        (repeat (with_reducible refine And.intro (by first | omega | rfl | assumption | decide) ?_))
        try first | exact ⟨rfl, rfl⟩ | trivial | omega
      refine And.intro ⟨.vptr xs i, NR.vptr hr.nr, ?_, ?_, fun d h => by cases h; rfl⟩ ?_
      · intro x hx
        simp only [Op.operands, Array.mem_def, List.mem_cons, List.mem_singleton, List.not_mem_nil, or_false] at hx
        (first | subst hx | (rcases hx with rfl | rfl))
        all_goals (first | exact NR.v _ | assumption)
      · unfold aopO
        simp (disch := first | omega | (simp only [go_sem, isRow, isFlat, Option.isSome_some]; done) | assumption | (simp only [ints_length, List.length_replicate, List.length_set, List.length_append, List.length_take, List.length_drop, List.length_cons, List.length_nil] <;> omega) | fail) only [go_sem, Nat.reduceAdd, Nat.reduceSub, reduceIte, Nat.reduceEqDiff, Int.reduceToNat, Int.reduceBEq, Int.reduceBNe, hxl]
        (repeat (with_reducible refine And.intro (by first | omega | rfl | assumption | decide) ?_))
        try first | exact ⟨rfl, rfl⟩ | trivial | omega
      refine And.intro ⟨.vsl r.length (ints .u8 r) ci, NR.vsl (NR.ints _ _), ?_, ?_, fun d h => by cases h; rfl⟩ ?_
      · intro x hx
        simp only [Op.operands, Array.mem_def, List.mem_cons, List.mem_singleton, List.not_mem_nil, or_false] at hx
        (first | subst hx | (rcases hx with rfl | rfl))
        all_goals (first | exact NR.v _ | assumption)
      · unfold aopO
        simp (disch := first | omega | (simp only [go_sem, isRow, isFlat, Option.isSome_some]; done) | assumption | (simp only [ints_length, List.length_replicate, List.length_set, List.length_append, List.length_take, List.length_drop, List.length_cons, List.length_nil] <;> omega) | fail) only [go_sem, Nat.reduceAdd, Nat.reduceSub, reduceIte, Nat.reduceEqDiff, Int.reduceToNat, Int.reduceBEq, Int.reduceBNe, hci, hxl]
        (repeat (with_reducible refine And.intro (by first | omega | rfl | assumption | decide) ?_))
        try first | exact ⟨rfl, rfl⟩ | trivial | omega
      trivial
    repeat (first
      | (with_reducible refine lops_step fun K hK => ?_; simp (disch := first | omega | (simp only [go_sem, isRow, isFlat, Option.isSome_some]; done) | assumption | (simp only [ints_length, List.length_replicate, List.length_set, List.length_append, List.length_take, List.length_drop, List.length_cons, List.length_nil] <;> omega) | fail) only [go_sem, Nat.reduceAdd, Nat.reduceSub, reduceIte, Nat.reduceEqDiff, Int.reduceToNat, Int.reduceBEq, Int.reduceBNe, hci, hxl, e3]; (repeat (with_reducible refine And.intro (by first | omega | rfl | assumption | decide) ?_)); (first | (refine hK _ _ ?_) | (refine ⟨_, rfl, hK _ _ ?_⟩) | (refine Or.inl (hK _ _ ?_)) | (refine ⟨_, _, Or.inl (e1.go _), (by first | exact ⟨[], (List.append_nil _).symm⟩ | exact ⟨_, rfl⟩), hK _ _ ?_⟩) | (refine ⟨_, _, Or.inl (e1.go _), hK _ _ ?_⟩) | (refine ⟨_, _, Or.inl (e1.go _).weakQ, hK _ _ ?_⟩)); clear hK K)
      | (with_reducible refine lops_nil ?_)
      | (with_reducible refine lavc_reg ?_)
      | (with_reducible refine lavc_seq ?_)
      | (with_reducible refine lavc_block ?_)
      | (with_reducible refine lavc_skip ?_)
      | (with_reducible refine lavc_exit ?_)
      | (with_reducible refine lavc_ret ?_)
      | (with_reducible refine lavcR_round ?_)
      | (simp only [↓reduceIte, Nat.reduceEqDiff, reduceCtorEq]))
    have hb2 : A.length + 8 + r.length = B.length := by omega
    have hb3 : A ++ leN 8 ↑r.length ++ r = B := by rw [hst, List.append_assoc]
    have l8 : (leN 8 (r.length : Int)).length = 8 := leN_length _ _
    repeat (first
      | (with_reducible refine lopsN_step fun K hK => ?_; simp (disch := first | omega | (simp only [go_sem, isRow, isFlat, Option.isSome_some]; done) | assumption | (simp only [ints_length, List.length_replicate, List.length_set, List.length_append, List.length_take, List.length_drop, List.length_cons, List.length_nil] <;> omega) | fail) only [go_sem, Nat.reduceAdd, Nat.reduceSub, reduceIte, Nat.reduceEqDiff, Int.reduceToNat, Int.reduceBEq, Int.reduceBNe, hb2, hb3, l8, ints_append, List.length_append, e3]; (repeat (with_reducible refine And.intro (by first | omega | rfl | assumption | decide) ?_)); (first | (refine hK _ _ ?_) | (refine ⟨_, rfl, hK _ _ ?_⟩) | (refine Or.inl (hK _ _ ?_))); clear hK K)
      | (with_reducible refine lopsN_nil ?_)
      | (with_reducible refine lavc_reg ?_)
      | (with_reducible refine lavc_seq ?_)
      | (with_reducible refine lavc_block ?_)
      | (with_reducible refine lavc_skip ?_)
      | (with_reducible refine lavc_exit ?_)
      | (with_reducible refine lavc_ret ?_)
      | (with_reducible refine lavcR_round ?_)
      | (simp only [↓reduceIte, Nat.reduceEqDiff, reduceCtorEq]))
    repeat (first
      | (with_reducible refine lops_step fun K hK => ?_; simp (disch := first | omega | (simp only [go_sem, isRow, isFlat, Option.isSome_some]; done) | assumption | (simp only [ints_length, List.length_replicate, List.length_set, List.length_append, List.length_take, List.length_drop, List.length_cons, List.length_nil] <;> omega) | fail) only [go_sem, Nat.reduceAdd, Nat.reduceSub, reduceIte, Nat.reduceEqDiff, Int.reduceToNat, Int.reduceBEq, Int.reduceBNe, e3]; (repeat (with_reducible refine And.intro (by first | omega | rfl | assumption | decide) ?_)); (first | (refine hK _ _ ?_) | (refine ⟨_, rfl, hK _ _ ?_⟩) | (refine Or.inl (hK _ _ ?_))); clear hK K)
      | (with_reducible refine lops_nil ?_)
      | (with_reducible refine lavc_reg ?_)
      | (with_reducible refine lavc_seq ?_)
      | (with_reducible refine lavc_block ?_)
      | (with_reducible refine lavc_skip ?_)
      | (with_reducible refine lavc_exit ?_)
      | (with_reducible refine lavc_ret ?_)
      | (with_reducible refine lavcR_round ?_)
      | (simp only [↓reduceIte, Nat.reduceEqDiff, reduceCtorEq]))
    refine ⟨m - 1, (i + 1, v + 1 + 1, gg), by omega, by show m - 1 + (i + 1) = rs.length; omega, ?_, ?_⟩
    · simp only [ms23_0, putAll, blank, List.foldl_cons, List.foldl_nil, List.set_cons_succ, List.set_cons_zero, List.cons_append, List.nil_append, ALe, true_or, or_true, and_true, true_and, eq_self, reduceCtorEq, false_or]
      simp only [hB]
    · simp only [hB]
  · obtain rfl : i = rs.length := by omega
    rw [List.take_length]
    repeat (first
      | (with_reducible refine lops_step fun K hK => ?_; simp (disch := first | omega | (simp only [go_sem, isRow, isFlat, Option.isSome_some]; done) | assumption | (simp only [ints_length, List.length_replicate, List.length_set, List.length_append, List.length_take, List.length_drop, List.length_cons, List.length_nil] <;> omega) | fail) only [go_sem, Nat.reduceAdd, Nat.reduceSub, reduceIte, Nat.reduceEqDiff, Int.reduceToNat, Int.reduceBEq, Int.reduceBNe]; (repeat (with_reducible refine And.intro (by first | omega | rfl | assumption | decide) ?_)); (first | (refine hK _ _ ?_) | (refine ⟨_, rfl, hK _ _ ?_⟩) | (refine Or.inl (hK _ _ ?_))); clear hK K)
      | (with_reducible refine lops_nil ?_)
      | (with_reducible refine lavc_reg ?_)
      | (with_reducible refine lavc_seq ?_)
      | (with_reducible refine lavc_block ?_)
      | (with_reducible refine lavc_skip ?_)
      | (with_reducible refine lavc_exit ?_)
      | (with_reducible refine lavc_ret ?_)
      | (with_reducible refine lavcR_round ?_)
      | (simp only [↓reduceIte, Nat.reduceEqDiff, reduceCtorEq]))
    refine And.intro (by simp) ?_
    simp (disch := first | omega | (simp only [go_sem, isRow, isFlat, Option.isSome_some]; done) | assumption | (simp only [ints_length, List.length_replicate, List.length_set, List.length_append, List.length_take, List.length_drop, List.length_cons, List.length_nil] <;> omega) | fail) only [go_sem, Nat.reduceAdd, Nat.reduceSub, reduceIte, Nat.reduceEqDiff, Int.reduceToNat, Int.reduceBEq, Int.reduceBNe, aret, aretL, aret1, aenv]
    (repeat (with_reducible refine And.intro (by first | omega | rfl | assumption | decide) ?_))
    show Fin 0 _ _ (.vsl (packN rs.length rs).length (ints .u8 (packN rs.length rs)) none) []
    exact endI rfl rfl (Nat.le_refl _)
open Go.Proofs
open Go.Abs.B
open Go.Proofs.YtkeacmonhjhgeaaDoor.Back (foldD upto back)
set_option linter.unusedVariables false
set_option linter.unusedSimpArgs false
set_option maxRecDepth 100000
set_option maxHeartbeats 4000000
/-- One byte more. -/
def gD (a z : Int) : Int := bits .or .i64 (IntKind.i64.wrap (a * 256)) (IntKind.i64.wrap z)
theorem gD_small (a z : Int) (h0 : 0 ≤ a) (h1 : a < 281474976710656) (hz : 0 ≤ z ∧ z ≤ 255) : gD a z = a * 256 + z := by
  unfold gD
  rw [i64z (a * 256) (by omega), i64z z (by omega)]
  exact bits_join .i64 62 (by decide) (fun n h0 h1 => by rw [IntKind.wrap_i64]; omega) 8 _ _ (by omega) (by omega) (by simp only [Int.reducePow]; omega) (by omega) (by simp only [Int.reducePow]; omega) (by simp only [Int.reducePow]; omega)
theorem ofInt_wrap (x : Int) : BitVec.ofInt 64 (IntKind.i64.wrap x) = BitVec.ofInt 64 x := by
  apply BitVec.eq_of_toNat_eq
  rw [BitVec.toNat_ofInt, BitVec.toNat_ofInt, IntKind.wrap_i64]
  congr 1
  have : (((2 ^ 64 : Nat) : Int)) = 18446744073709551616 := by decide
  rw [this]
  omega
theorem ofInt_wrapU (x : Int) : BitVec.ofInt 64 (IntKind.u64.wrap x) = BitVec.ofInt 64 x := by
  apply BitVec.eq_of_toNat_eq
  rw [BitVec.toNat_ofInt, BitVec.toNat_ofInt, IntKind.wrap_u64]
  congr 1
  have : (((2 ^ 64 : Nat) : Int)) = 18446744073709551616 := by decide
  rw [this]
  omega
theorem gD_last (a z : Int) (h0 : 0 ≤ a) (h1 : a < 72057594037927936) (hz : 0 ≤ z ∧ z ≤ 255) : bits .andNot .i64 (gD a z) (-9223372036854775808) = (a * 256 + z) % 9223372036854775808 := by
  have hu : bits .or .u64 (a * 256) z = a * 256 + z := bits_join .u64 64 (by decide) (fun n h0 h1 => by rw [IntKind.wrap_u64]; omega) 8 (a * 256) z (by omega) (by omega) (by simp only [Int.reducePow]; omega) (by omega) (by simp only [Int.reducePow]; omega) (by simp only [Int.reducePow]; omega)
  obtain ⟨n, hn⟩ := Int.eq_ofNat_of_zero_le (show 0 ≤ a * 256 + z by omega)
  obtain ⟨X, hX⟩ : ∃ X, BitVec.ofInt 64 (a * 256) ||| BitVec.ofInt 64 z = X := ⟨_, rfl⟩
  have e1 : bits .or .u64 (a * 256) z = IntKind.u64.wrap (X.toNat : Int) := by rw [← hX]; rfl
  have e2 : gD a z = IntKind.i64.wrap (X.toNat : Int) := by
    rw [← hX, ← ofInt_wrap (a * 256), ← ofInt_wrap z]
    rfl
  have hlt := X.isLt
  have e3 : X.toNat = n := by
    rw [hu, hn, IntKind.wrap_u64] at e1
    omega
  rw [e2, hn, e3]
  have e4 : bits .andNot .i64 (IntKind.i64.wrap (n : Int)) (-9223372036854775808) = IntKind.i64.wrap ((BitVec.ofInt 64 (IntKind.i64.wrap (n : Int)) &&& ~~~BitVec.ofInt 64 (-9223372036854775808)).toNat : Int) := rfl
  rw [e4, ofInt_wrap, BitVec.toNat_and]
  have e5 : (BitVec.ofInt 64 (n : Int)).toNat = n := by
    rw [BitVec.toNat_ofInt]
    have : (((2 ^ 64 : Nat) : Int)) = 18446744073709551616 := by decide
    rw [this]
    omega
  have e6 : (~~~BitVec.ofInt 64 (-9223372036854775808)).toNat = 2 ^ 63 - 1 := by decide
  rw [e5, e6, Nat.and_two_pow_sub_one_eq_mod]
  have : n % 2 ^ 63 < 2 ^ 63 := Nat.mod_lt _ (by decide)
  rw [i64z _ (by omega)]
  omega
theorem drawP_eq (Z : List Int) (hl : 8 ≤ Z.length) (h8 : B8 Z) : drawP Z =
    ((((((Z.getD 7 0 % 128 * 256 + Z.getD 6 0) * 256 + Z.getD 5 0) * 256 + Z.getD 4 0) * 256 + Z.getD 3 0) * 256 + Z.getD 2 0) * 256 + Z.getD 1 0) * 256 + Z.getD 0 0 := by
  match Z, hl, h8 with
  | b0 :: b1 :: b2 :: b3 :: b4 :: b5 :: b6 :: b7 :: r, _, h8 =>
    have g0 : 0 ≤ b0 ∧ b0 ≤ 255 := h8 b0 (by simp)
    have g1 : 0 ≤ b1 ∧ b1 ≤ 255 := h8 b1 (by simp)
    have g2 : 0 ≤ b2 ∧ b2 ≤ 255 := h8 b2 (by simp)
    have g3 : 0 ≤ b3 ∧ b3 ≤ 255 := h8 b3 (by simp)
    have g4 : 0 ≤ b4 ∧ b4 ≤ 255 := h8 b4 (by simp)
    have g5 : 0 ≤ b5 ∧ b5 ≤ 255 := h8 b5 (by simp)
    have g6 : 0 ≤ b6 ∧ b6 ≤ 255 := h8 b6 (by simp)
    have g7 : 0 ≤ b7 ∧ b7 ≤ 255 := h8 b7 (by simp)
    have e : drawP (b0 :: b1 :: b2 :: b3 :: b4 :: b5 :: b6 :: b7 :: r) = bits .andNot .i64 (gD (gD (gD (gD (gD (gD (gD (gD 0 b7) b6) b5) b4) b3) b2) b1) b0) (-9223372036854775808) := rfl
    rw [e, gD_small 0 b7 (by omega) (by omega) g7, gD_small _ b6 (by omega) (by omega) g6, gD_small _ b5 (by omega) (by omega) g5, gD_small _ b4 (by omega) (by omega) g4, gD_small _ b3 (by omega) (by omega) g3, gD_small _ b2 (by omega) (by omega) g2, gD_small _ b1 (by omega) (by omega) g1, gD_last _ b0 (by omega) (by omega) g0]
    simp only [List.getD_cons_succ, List.getD_cons_zero]
    omega
theorem refSumC_p (xs : List AV) (cx : Option Nat) (rs : List (List Int)) (hr : Rws xs rs) (h1 : rs.length ≤ 20) (h2 : ∀ r ∈ rs, r.length ≤ 1000) (h3 : ∀ r ∈ rs, B8 r) :
    PCall Tryd.prog glob 20 [.vsl rs.length xs cx] (.vsl 64 (ints .u8 (sumC rs)) none) := by
  refine PCall.of ctx.nr (List.forall_mem_cons.2 ⟨NR.vsl hr.nr, fun _ h => absurd h List.not_mem_nil⟩) (NR.vsl (NR.ints _ _)) ?_
  refine lcall20 (by simp) 0 (Nat.le_refl _) ?_
  unfold lc20
  simp only [List.length_cons, List.length_nil, Nat.reduceAdd, Nat.reduceSub, List.replicate_succ, List.replicate_zero, List.cons_append, List.nil_append]
  have pp := refPack_p rs xs cx hr (by omega) h2
  have hl := pack_len rs 1000 h2
  have hb := pack_b8 rs h3
  obtain ⟨T, hT⟩ : ∃ T, packP rs = T := ⟨_, rfl⟩
  have hsum : sumC rs = sumP 64 [] T := by unfold sumC; rw [hT]
  rw [hsum]
  rw [hT] at pp hl hb
  have lp := (refSum_p 64 [] none none 0 rfl (by decide) (by decide) B8.nil T hb (by have : rs.length * 1008 ≤ 20 * 1008 := Nat.mul_le_mul_right _ h1; omega)).les (args := [.v (.int .i64 64), .v (.slice none 0 0), .vsl T.length (ints .u8 T) none]) ⟨AvLe.refl _, AvLe.nil, AvLe.refl _, trivial⟩
  repeat (first
    | (with_reducible refine lops_step fun K hK => ?_; simp (disch := first | omega | (simp only [go_sem, isRow, isFlat, Option.isSome_some]; done) | assumption | (simp only [ints_length, List.length_replicate, List.length_set, List.length_append, List.length_take, List.length_drop, List.length_cons, List.length_nil] <;> omega) | fail) only [go_sem, Nat.reduceAdd, Nat.reduceSub, reduceIte, Nat.reduceEqDiff, Int.reduceToNat, Int.reduceBEq, Int.reduceBNe]; (repeat (with_reducible refine And.intro (by first | omega | rfl | assumption | decide) ?_)); (first | (refine hK _ _ ?_) | (refine ⟨_, rfl, hK _ _ ?_⟩) | (refine Or.inl (hK _ _ ?_)) | (refine ⟨_, _, Or.inl (pp.go _), (by first | exact ⟨[], (List.append_nil _).symm⟩ | exact ⟨_, rfl⟩), hK _ _ ?_⟩) | (refine ⟨_, _, Or.inl (pp.go _), hK _ _ ?_⟩) | (refine ⟨_, _, Or.inl (pp.go _).weakQ, hK _ _ ?_⟩) | (refine ⟨_, _, Or.inl (lp.go _), (by first | exact ⟨[], (List.append_nil _).symm⟩ | exact ⟨_, rfl⟩), hK _ _ ?_⟩) | (refine ⟨_, _, Or.inl (lp.go _), hK _ _ ?_⟩) | (refine ⟨_, _, Or.inl (lp.go _).weakQ, hK _ _ ?_⟩)); clear hK K)
    | (with_reducible refine lops_nil ?_)
    | (with_reducible refine lavc_reg ?_)
    | (with_reducible refine lavc_seq ?_)
    | (with_reducible refine lavc_block ?_)
    | (with_reducible refine lavc_skip ?_)
    | (with_reducible refine lavc_exit ?_)
    | (with_reducible refine lavc_ret ?_)
    | (with_reducible refine lavcR_round ?_)
    | (simp only [↓reduceIte, Nat.reduceEqDiff, reduceCtorEq]))
  refine And.intro (by simp) ?_
  simp (disch := first | omega | (simp only [go_sem, isRow, isFlat, Option.isSome_some]; done) | assumption | (simp only [ints_length, List.length_replicate, List.length_set, List.length_append, List.length_take, List.length_drop, List.length_cons, List.length_nil] <;> omega) | fail) only [go_sem, Nat.reduceAdd, Nat.reduceSub, reduceIte, Nat.reduceEqDiff, Int.reduceToNat, Int.reduceBEq, Int.reduceBNe, aret, aretL, aret1, aenv]
  (repeat (with_reducible refine And.intro (by first | omega | rfl | assumption | decide) ?_))
  exact end0 (NR.vsl (NR.ints _ _)) rfl
theorem refDraw_p (Z : List Int) (c : Option Nat) (hl : Z.length = 64) (h8 : B8 Z) : PCall Tryd.prog glob 21 [.vsl 64 (ints .u8 Z) c] (.v (.int .i64 (drawP Z))) := by
  refine PCall.of ctx.nr (by (repeat (refine List.forall_mem_cons.2 (And.intro (by first | exact NR.v _ | exact NR.agg (NR.ints _ _) | exact NR.vsl (NR.ints _ _) | exact NR.vptr (NR.ints _ _) | assumption) ?_))); exact fun _ h => absurd h List.not_mem_nil) (NR.v _) ?_
  refine lcall21 (by simp) 0 (Nat.le_refl _) ?_
  unfold lc21
  simp only [List.length_cons, List.length_nil, Nat.reduceAdd, Nat.reduceSub, List.replicate_succ, List.replicate_zero, List.cons_append, List.nil_append]
  rw [drawP_eq Z (by omega) h8]
  have g0 := h8.get 0
  have g1 := h8.get 1
  have g2 := h8.get 2
  have g3 := h8.get 3
  have g4 := h8.get 4
  have g5 := h8.get 5
  have g6 := h8.get 6
  have g7 := h8.get 7
  obtain ⟨b0, e0⟩ : ∃ b, Z.getD 0 0 = b := ⟨_, rfl⟩
  obtain ⟨b1, e1⟩ : ∃ b, Z.getD 1 0 = b := ⟨_, rfl⟩
  obtain ⟨b2, e2⟩ : ∃ b, Z.getD 2 0 = b := ⟨_, rfl⟩
  obtain ⟨b3, e3⟩ : ∃ b, Z.getD 3 0 = b := ⟨_, rfl⟩
  obtain ⟨b4, e4⟩ : ∃ b, Z.getD 4 0 = b := ⟨_, rfl⟩
  obtain ⟨b5, e5⟩ : ∃ b, Z.getD 5 0 = b := ⟨_, rfl⟩
  obtain ⟨b6, e6⟩ : ∃ b, Z.getD 6 0 = b := ⟨_, rfl⟩
  obtain ⟨b7, e7⟩ : ∃ b, Z.getD 7 0 = b := ⟨_, rfl⟩
  rw [e0] at g0
  rw [e1] at g1
  rw [e2] at g2
  rw [e3] at g3
  rw [e4] at g4
  rw [e5] at g5
  rw [e6] at g6
  rw [e7] at g7
  rw [e0, e1, e2, e3, e4, e5, e6, e7]
  have t7 : b7.tmod 128 = b7 % 128 := Int.tmod_eq_emod_of_nonneg g7.1
  obtain ⟨v0, h0⟩ : ∃ v, b7 % 128 = v := ⟨_, rfl⟩
  obtain ⟨v1, h1⟩ : ∃ v, v0 * 256 + b6 = v := ⟨_, rfl⟩
  obtain ⟨v2, h2⟩ : ∃ v, v1 * 256 + b5 = v := ⟨_, rfl⟩
  obtain ⟨v3, h3⟩ : ∃ v, v2 * 256 + b4 = v := ⟨_, rfl⟩
  obtain ⟨v4, h4⟩ : ∃ v, v3 * 256 + b3 = v := ⟨_, rfl⟩
  obtain ⟨v5, h5⟩ : ∃ v, v4 * 256 + b2 = v := ⟨_, rfl⟩
  obtain ⟨v6, h6⟩ : ∃ v, v5 * 256 + b1 = v := ⟨_, rfl⟩
  obtain ⟨v7, h7⟩ : ∃ v, v6 * 256 + b0 = v := ⟨_, rfl⟩
  rw [h0, h1, h2, h3, h4, h5, h6, h7]
  have c0 := i64z b0 (by omega)
  have c1 := i64z b1 (by omega)
  have c2 := i64z b2 (by omega)
  have c3 := i64z b3 (by omega)
  have c4 := i64z b4 (by omega)
  have c5 := i64z b5 (by omega)
  have c6 := i64z b6 (by omega)
  have d0 := i64z v0 (by omega)
  have m0 := i64z (v0 * 256) (by omega)
  have m1 := i64z (v1 * 256) (by omega)
  have m2 := i64z (v2 * 256) (by omega)
  have m3 := i64z (v3 * 256) (by omega)
  have m4 := i64z (v4 * 256) (by omega)
  have m5 := i64z (v5 * 256) (by omega)
  have m6 := i64z (v6 * 256) (by omega)
  have s1 := i64z v1 (by omega)
  have s2 := i64z v2 (by omega)
  have s3 := i64z v3 (by omega)
  have s4 := i64z v4 (by omega)
  have s5 := i64z v5 (by omega)
  have s6 := i64z v6 (by omega)
  have s7 := i64z v7 (by omega)
  have i5 : IntKind.i64.wrap (6 - 1) = 5 := by decide
  have i4 : IntKind.i64.wrap (5 - 1) = 4 := by decide
  have i3 : IntKind.i64.wrap (4 - 1) = 3 := by decide
  have i2 : IntKind.i64.wrap (3 - 1) = 2 := by decide
  have i1 : IntKind.i64.wrap (2 - 1) = 1 := by decide
  have i0 : IntKind.i64.wrap (1 - 1) = 0 := by decide
  have i9 : IntKind.i64.wrap (0 - 1) = -1 := by decide
  repeat (first
    | (with_reducible refine lops_step fun K hK => ?_; simp (disch := first | omega | (simp only [go_sem, isRow, isFlat, Option.isSome_some]; done) | assumption | (simp only [ints_length, List.length_replicate, List.length_set, List.length_append, List.length_take, List.length_drop, List.length_cons, List.length_nil] <;> omega) | fail) only [go_sem, Nat.reduceAdd, Nat.reduceSub, reduceIte, Nat.reduceEqDiff, Int.reduceToNat, Int.reduceBEq, Int.reduceBNe, hl, e7, t7, h0, d0]; (try (first | (refine And.intro (fun _ => ?_) (fun h => absurd h (by decide))) | (refine And.intro (fun h => absurd h (by decide)) (fun _ => ?_)))); (repeat (with_reducible refine And.intro (by first | omega | rfl | assumption | decide) ?_)); (first | (refine hK _ _ ?_) | (refine ⟨_, rfl, hK _ _ ?_⟩) | (refine Or.inl (hK _ _ ?_))); clear hK K)
    | (with_reducible refine lops_nil ?_)
    | (with_reducible refine lavc_reg ?_)
    | (with_reducible refine lavc_seq ?_)
    | (with_reducible refine lavc_block ?_)
    | (with_reducible refine lavc_skip ?_)
    | (with_reducible refine lavc_exit ?_)
    | (with_reducible refine lavc_ret ?_)
    | (with_reducible refine lavcR_round ?_)
    | (refine lavc_cond rfl (fun _ => ?_) (fun hc => absurd hc (by decide)))
    | (refine lavc_cond rfl (fun hc => absurd hc (by decide)) (fun _ => ?_))
    | (simp only [↓reduceIte, Nat.reduceEqDiff, reduceCtorEq]))
  refine lavc_rounds 8 ?_
  repeat (first
    | (with_reducible refine lops_step fun K hK => ?_; simp (disch := first | omega | (simp only [go_sem, isRow, isFlat, Option.isSome_some]; done) | assumption | (simp only [ints_length, List.length_replicate, List.length_set, List.length_append, List.length_take, List.length_drop, List.length_cons, List.length_nil] <;> omega) | fail) only [go_sem, Nat.reduceAdd, Nat.reduceSub, reduceIte, Nat.reduceEqDiff, Int.reduceToNat, Int.reduceBEq, Int.reduceBNe, hl, e0, e1, e2, e3, e4, e5, e6, e7, c0, c1, c2, c3, c4, c5, c6, m0, m1, m2, m3, m4, m5, m6, h1, h2, h3, h4, h5, h6, h7, s1, s2, s3, s4, s5, s6, s7, i0, i1, i2, i3, i4, i5, i9]; (try (first | (refine And.intro (fun _ => ?_) (fun h => absurd h (by decide))) | (refine And.intro (fun h => absurd h (by decide)) (fun _ => ?_)))); (repeat (with_reducible refine And.intro (by first | omega | rfl | assumption | decide) ?_)); (first | (refine hK _ _ ?_) | (refine ⟨_, rfl, hK _ _ ?_⟩) | (refine Or.inl (hK _ _ ?_))); clear hK K)
    | (with_reducible refine lops_nil ?_)
    | (with_reducible refine lavc_reg ?_)
    | (with_reducible refine lavc_seq ?_)
    | (with_reducible refine lavc_block ?_)
    | (with_reducible refine lavc_skip ?_)
    | (with_reducible refine lavc_exit ?_)
    | (with_reducible refine lavc_ret ?_)
    | (with_reducible refine lavcR_round ?_)
    | (refine lavc_cond rfl (fun _ => ?_) (fun hc => absurd hc (by decide)))
    | (refine lavc_cond rfl (fun hc => absurd hc (by decide)) (fun _ => ?_))
    | (simp only [↓reduceIte, Nat.reduceEqDiff, reduceCtorEq]))
  refine And.intro (by simp) ?_
  simp (disch := first | omega | (simp only [go_sem, isRow, isFlat, Option.isSome_some]; done) | assumption | (simp only [ints_length, List.length_replicate, List.length_set, List.length_append, List.length_take, List.length_drop, List.length_cons, List.length_nil] <;> omega) | fail) only [go_sem, Nat.reduceAdd, Nat.reduceSub, reduceIte, Nat.reduceEqDiff, Int.reduceToNat, Int.reduceBEq, Int.reduceBNe, aret, aretL, aret1, aenv]
  (repeat (with_reducible refine And.intro (by first | omega | rfl | assumption | decide) ?_))
  exact end0 (NR.v _) rfl
open Go.Proofs
open Go.Abs.B
set_option linter.unusedVariables false
set_option linter.unusedSimpArgs false
set_option maxRecDepth 100000
abbrev Lns := List (List Int) × List (List Int)
/-- All lanes' cells. -/
def fl (L M : Nat) (Z : Lns) : List AV := lc Z.1 M ++ (if L = 1 then [] else lc Z.2 M)
theorem pick2_put2 (Z : Lns) (l : Nat) (X : List (List Int)) : pick2 (put2 Z l X) l = X := by unfold pick2 put2; split <;> rfl
theorem put2_put2 (Z : Lns) (l : Nat) (X Y : List (List Int)) : put2 (put2 Z l X) l Y = put2 Z l Y := by unfold put2; split <;> rfl
theorem put2_pick2 (Z : Lns) (l : Nat) : put2 Z l (pick2 Z l) = Z := by unfold pick2 put2; split <;> rfl
theorem pick2_put2_ne (Z : Lns) {l j : Nat} (hl : l < 2) (hj : j < 2) (h : j ≠ l) (X : List (List Int)) : pick2 (put2 Z l X) j = pick2 Z j := by
  have a : l = 0 ∨ l = 1 := by omega
  have b : j = 0 ∨ j = 1 := by omega
  rcases a with rfl | rfl <;> rcases b with rfl | rfl <;> first | rfl | omega
theorem fl_len (L M : Nat) (Z : Lns) (hL : L = 1 ∨ L = 2) (h1 : Z.1.length ≤ M) (h2 : Z.2.length ≤ M) : (fl L M Z).length = L * M := by
  unfold fl
  rcases hL with rfl | rfl
  · simp [lc_len _ _ h1]
  · simp [lc_len _ _ h1, lc_len _ _ h2]
    omega
theorem fl_at (L M : Nat) (Z : Lns) (hL : L = 1 ∨ L = 2) (h1 : Z.1.length ≤ M) {l j : Nat} (hl : l < L) (hj : j < (pick2 Z l).length) : (fl L M Z).getD (l * M + j) .any = blkC ((pick2 Z l).getD j []) := by
  have hc := lc_len _ _ h1
  have a : l = 0 ∨ (l = 1 ∧ L = 2) := by omega
  unfold fl
  rcases a with rfl | ⟨rfl, rfl⟩
  · have hj' : j < Z.1.length := hj
    have e := lc_at Z.1 M j hj'
    rw [List.getD_eq_getElem?_getD] at e ⊢
    rw [Nat.zero_mul, Nat.zero_add, List.getElem?_append_left (by omega)]
    exact e
  · have hj' : j < Z.2.length := hj
    have e := lc_at Z.2 M j hj'
    rw [List.getD_eq_getElem?_getD] at e ⊢
    rw [Nat.one_mul, List.getElem?_append_right (by omega), hc, Nat.add_sub_cancel_left]
    exact e
theorem fl_set (L M : Nat) (Z : Lns) (hL : L = 1 ∨ L = 2) (h1 : Z.1.length ≤ M) {l i : Nat} (hl : l < L) (hi : i < (pick2 Z l).length) (S : List Int) : (fl L M Z).set (l * M + i) (blkC S) = fl L M (put2 Z l ((pick2 Z l).set i S)) := by
  have hc := lc_len _ _ h1
  have a : l = 0 ∨ (l = 1 ∧ L = 2) := by omega
  unfold fl
  rcases a with rfl | ⟨rfl, rfl⟩
  · have hj' : i < Z.1.length := hi
    rw [Nat.zero_mul, Nat.zero_add, List.set_append_left _ _ (by omega), lc_set _ _ _ _ hj']
    rfl
  · have hj' : i < Z.2.length := hi
    rw [Nat.one_mul, List.set_append_right _ _ (by omega), hc, Nat.add_sub_cancel_left, if_neg (by decide), lc_set _ _ _ _ hj']
    rfl
theorem fl_add (L M : Nat) (Z : Lns) (hL : L = 1 ∨ L = 2) (h1 : Z.1.length ≤ M) {l i : Nat} (hl : l < L) (hi : (pick2 Z l).length = i) (hM : i < M) (S : List Int) : (fl L M Z).set (l * M + i) (blkC S) = fl L M (put2 Z l (pick2 Z l ++ [S])) := by
  have hc := lc_len _ _ h1
  have a : l = 0 ∨ (l = 1 ∧ L = 2) := by omega
  unfold fl
  subst hi
  rcases a with rfl | ⟨rfl, rfl⟩
  · have e := lc_add Z.1 M S hM
    have e2 : (pick2 Z 0).length = Z.1.length := rfl
    rw [Nat.zero_mul, Nat.zero_add, List.set_append_left _ _ (by omega), e2, e]
    rfl
  · have e := lc_add Z.2 M S hM
    have e2 : (pick2 Z 1).length = Z.2.length := rfl
    rw [Nat.one_mul, List.set_append_right _ _ (by omega), hc, Nat.add_sub_cancel_left, if_neg (by decide), e2, e]
    rfl
/-- The first two blocks of so many lanes. -/
def st0 (F : List Int) (l : Nat) : Lns := (if 0 < l then start F 0 else [], if 1 < l then start F 1 else [])
theorem st0_step (F : List Int) (l : Nat) (hl : l < 2) : put2 (st0 F l) l [fst2 F l 0, fst2 F l 1] = st0 F (l + 1) := by
  have a : l = 0 ∨ l = 1 := by omega
  rcases a with rfl | rfl <;> rfl
theorem st0_pick (F : List Int) (l : Nat) (hl : l < 2) : pick2 (st0 F l) l = [] := by
  have a : l = 0 ∨ l = 1 := by omega
  rcases a with rfl | rfl <;> rfl
theorem st0_ok (F : List Int) (l M : Nat) (hM : 2 ≤ M) (hl : l ≤ 2) : (st0 F l).1.length ≤ M ∧ (st0 F l).2.length ≤ M := by
  have a : l = 0 ∨ l = 1 ∨ l = 2 := by omega
  rcases a with rfl | rfl | rfl <;> exact ⟨by simp [st0, start]; try omega, by simp [st0, start]; try omega⟩
theorem fl_nil (L M : Nat) (hL : L = 1 ∨ L = 2) (F : List Int) : fl L M (st0 F 0) = List.replicate (L * M) nilA := by
  rcases hL with rfl | rfl
  · simp [fl, st0, lc]
  · simp [fl, st0, lc, List.replicate_append_replicate, Nat.two_mul]
/-- A lane in a pass, up to a block; so many lanes; so many passes. -/
def inn (L M p l k : Nat) (Z : Lns) : Lns := if p = 0 then put2 Z l (cgrows (k - 2) (pick2 Z l)) else turns L M l k Z
def lan (L M p : Nat) : Nat → Lns → Lns
  | 0, Z => Z
  | l + 1, Z => inn L M p l M (lan L M p l Z)
def stg (L : Nat) (F : List Int) (M : Nat) : Nat → Lns
  | 0 => st0 F L
  | p + 1 => lan L M p L (stg L F M p)
theorem inn_zero (L M p l : Nat) (Z : Lns) : inn L M p l 0 Z = Z := by
  unfold inn
  split
  · exact put2_pick2 Z l
  · rfl
theorem inn_small (L M p l k : Nat) (Z : Lns) (hp : p = 0) (hk : k < 2) : inn L M p l (k + 1) Z = inn L M p l k Z := by
  unfold inn
  rw [if_pos hp, if_pos hp, show k + 1 - 2 = k - 2 from by omega]
theorem inn_grow (L M p l k : Nat) (Z : Lns) (hp : p = 0) (hk : 2 ≤ k) : inn L M p l (k + 1) Z = put2 (inn L M p l k Z) l (cgrow (pick2 (inn L M p l k Z) l)) := by
  unfold inn
  rw [if_pos hp, if_pos hp, pick2_put2, put2_put2, show k + 1 - 2 = (k - 2) + 1 from by omega]
  rfl
theorem inn_turn (L M p l k : Nat) (Z : Lns) (hp : p ≠ 0) : inn L M p l (k + 1) Z = turn L M (inn L M p l k Z) l k := by
  unfold inn
  rw [if_neg hp, if_neg hp]
  rfl
theorem stg_one (F : List Int) (M : Nat) : ∀ p, stg 1 F M p = (stage1 F M p, [])
  | 0 => rfl
  | 1 => rfl
  | p + 2 => by
    show inn 1 M (p + 1) 0 M (stg 1 F M (p + 1)) = _
    rw [stg_one F M (p + 1)]
    have h := turns_one M (stage1 F M (p + 1)) M
    exact Prod.ext rfl h
theorem stg_two (F : List Int) (M : Nat) : ∀ p, stg 2 F M p = stage2 F M p
  | 0 => rfl
  | 1 => rfl
  | p + 2 => by
    show inn 2 M (p + 1) 1 M (inn 2 M (p + 1) 0 M (stg 2 F M (p + 1))) = _
    rw [stg_two F M (p + 1)]
    rfl
/-- What lanes are while one is worked at. -/
def Wl (L M p l k : Nat) (Z : Lns) : Prop := Z.1.length ≤ M ∧ Z.2.length ≤ M ∧ ∀ j, j < L → G64 (pick2 Z j) ∧ (pick2 Z j).length = (if p = 0 then (if j < l then M else if j = l then max 2 k else 2) else M)
theorem put2_lens (Z : Lns) (l : Nat) (X : List (List Int)) {M : Nat} (h1 : Z.1.length ≤ M) (h2 : Z.2.length ≤ M) (hX : X.length ≤ M) : (put2 Z l X).1.length ≤ M ∧ (put2 Z l X).2.length ≤ M := by
  unfold put2
  split
  · exact ⟨hX, h2⟩
  · exact ⟨h1, hX⟩
theorem Wl.small {L M p l k : Nat} {Z : Lns} (h : Wl L M p l k Z) (hk : k < 2) : Wl L M p l (k + 1) Z := by
  refine ⟨h.1, h.2.1, fun j hj => ⟨(h.2.2 j hj).1, ?_⟩⟩
  rw [(h.2.2 j hj).2, show max 2 (k + 1) = max 2 k from by omega]
theorem Wl.grow {L M p l k : Nat} {Z : Lns} (h : Wl L M p l k Z) (hL : L ≤ 2) (hl : l < L) (hp : p = 0) (hk : 2 ≤ k) (hM : k < M) : Wl L M p l (k + 1) (put2 Z l (cgrow (pick2 Z l))) := by
  have hk2 := (h.2.2 l hl).2
  rw [if_pos hp, if_neg (Nat.lt_irrefl _), if_pos rfl] at hk2
  have a := put2_lens Z l (cgrow (pick2 Z l)) h.1 h.2.1 (by rw [cgrow_len]; omega)
  refine ⟨a.1, a.2, fun j hj => ?_⟩
  by_cases e : j = l
  · subst e
    rw [pick2_put2]
    refine ⟨(h.2.2 j hj).1.add _, ?_⟩
    rw [if_pos hp, if_neg (Nat.lt_irrefl _), if_pos rfl, cgrow_len]
    omega
  · rw [pick2_put2_ne Z (by omega) (by omega) e]
    refine ⟨(h.2.2 j hj).1, ?_⟩
    rw [(h.2.2 j hj).2, if_neg e, if_neg e]
theorem Wl.turn {L M p l k : Nat} {Z : Lns} (h : Wl L M p l k Z) (hL : L ≤ 2) (hl : l < L) (hp : p ≠ 0) (hM : k < M) : Wl L M p l (k + 1) (turn L M Z l k) := by
  have hk2 := (h.2.2 l hl).2
  rw [if_neg hp] at hk2
  have a := put2_lens Z l ((pick2 Z l).set k (anew L M Z l k)) h.1 h.2.1 (by rw [List.length_set]; omega)
  refine ⟨a.1, a.2, fun j hj => ?_⟩
  unfold Go.Abs.S.turn
  by_cases e : j = l
  · subst e
    rw [pick2_put2]
    refine ⟨(h.2.2 j hj).1.set _ _, ?_⟩
    rw [if_neg hp, List.length_set, hk2]
  · rw [pick2_put2_ne Z (by omega) (by omega) e]
    refine ⟨(h.2.2 j hj).1, ?_⟩
    rw [(h.2.2 j hj).2, if_neg hp, if_neg hp]
theorem Wl.next {L M p l : Nat} {Z : Lns} (h : Wl L M p l M Z) (hM : 2 ≤ M) : Wl L M p (l + 1) 0 Z := by
  refine ⟨h.1, h.2.1, fun j hj => ⟨(h.2.2 j hj).1, ?_⟩⟩
  rw [(h.2.2 j hj).2]
  by_cases hp : p = 0
  · rw [if_pos hp, if_pos hp]
    by_cases e1 : j < l
    · rw [if_pos e1, if_pos (by omega)]
    · rw [if_neg e1]
      by_cases e2 : j = l
      · rw [if_pos e2, if_pos (by omega)]
        omega
      · rw [if_neg e2, if_neg (by omega)]
        split <;> omega
  · rw [if_neg hp, if_neg hp]
theorem Wl.pass {L M p : Nat} {Z : Lns} (h : Wl L M p L 0 Z) : Wl L M (p + 1) 0 0 Z := by
  refine ⟨h.1, h.2.1, fun j hj => ⟨(h.2.2 j hj).1, ?_⟩⟩
  have hn : ¬ (p + 1 = 0) := by omega
  rw [(h.2.2 j hj).2, if_pos hj, if_neg hn]
  split <;> rfl
theorem Wl.begin {L M : Nat} (F : List Int) (hL : L = 1 ∨ L = 2) (hM : 2 ≤ M) : Wl L M 0 0 0 (st0 F L) := by
  have a := st0_ok F L M hM (by omega)
  refine ⟨a.1, a.2, fun j hj => ?_⟩
  have hj2 : j = 0 ∨ (j = 1 ∧ L = 2) := by omega
  have hlen : (pick2 (st0 F L) j).length = 2 ∧ G64 (pick2 (st0 F L) j) := by
    rcases hL with rfl | rfl
    · obtain rfl : j = 0 := by omega
      exact ⟨rfl, start_g F 0⟩
    · rcases hj2 with rfl | ⟨rfl, _⟩
      · exact ⟨rfl, start_g F 0⟩
      · exact ⟨rfl, start_g F 1⟩
  refine ⟨hlen.2, ?_⟩
  rw [hlen.1, if_pos rfl, if_neg (Nat.not_lt_zero _)]
  split <;> rfl
end Go.Abs.S
