/- The statement ClaimMakesSaid and its tied card: for every input the law answers true and the input reads as it did, the listed variables holding what the program lays in them. -/
import Derived.Test.YtgmchiadphdlhaaDoorJClaimMakes5
import Derived.Test.YtgmchiadphdlhaaDoorJClaimMakes4
import Derived.Test.YtgmchiadphdlhaaDoorJClaimMakes3
import Derived.Test.YtgmchiadphdlhaaDoorRows
import Derived.Test.YtgmchiadphdlhaaDoorCards
import Derived.Test.YtgmchiadphdlhaaDoorTie
import Derived.Test.YtgmchiadphdlhaaDoorJClaimMakes1
import Derived.Lay
import Derived.MakeChecks
import Derived.WalkKit
import Derived.ProofKit
import Derived.OpenShut
import Derived.ShutString
import Derived.ChangeOld
import Derived.Below
import Derived.SizedLaws
import Derived.LaidMore
import Derived.Stop.Joined
import Derived.SevenTiedAt
namespace Go.Abs.S
attribute [local go_sem] lguard aopO aop nxL aenv toAV tput aLoad aStore vcells aBin aNilI aUn aAlloc aBox aBuild aBSlice afill aConv isIntT aappZ aCap aArr aMM aMake aSlice bnd3 bnd aFldAddr aFld aIdxAddr aIdx aExt aLen aCopy aEq0 bAV aUb aapp aappQ agh acont List.getD_cons_zero List.getD_cons_succ List.set_cons_zero List.set_cons_succ List.getElem?_cons_zero List.getElem?_cons_succ List.length_cons List.length_nil List.map_cons List.map_nil ints_length if_true if_false Bool.false_eq_true true_and and_true eq_self ne_eq not_false_eq_true not_true_eq_false beq_self_eq_true Nat.zero_add Nat.add_zero Nat.mul_one Nat.zero_mul Int.toNat_natCast List.toList_toArray List.all_cons List.all_nil AV.one Value.oneCell' Bool.and_true Bool.true_and forall_const true_implies false_implies implies_true Option.map_some Option.map_none Option.isSome_some Option.isSome_none imp_self rdP_flat rdP_row splice_one ints_set ints_get List.append_nil List.cons_append List.nil_append List.getElem?_toArray List.drop_zero ints_drop ints_take List.take_of_length_le splice_all ints_one Option.some.injEq Option.getD_some List.length_replicate zArr List.map_replicate rep_ints splice_intsR List.length_set List.length_append List.flatten_replicate_singleton rep_slice rep_string rep_bool rep_iface List.replicate_zero if_pos if_neg List.mapM_cons List.mapM_nil Option.pure_def Option.bind_eq_bind Option.bind_some Bool.true_eq_false Bool.not_false Bool.not_true get_concat set_concat
open Go.Proofs
set_option linter.unusedVariables false
set_option linter.unusedSimpArgs false
set_option maxRecDepth 100000
set_option maxHeartbeats 4000000
abbrev Rule3 : Type := Int × ByteArray × ByteArray
def rulesA (l : List Rule3) : List AV := l.flatMap ruleA
theorem rulesA_length (l : List Rule3) : (rulesA l).length = l.length * 3 := by
  induction l with
  | nil => rfl
  | cons a l ih =>
    have : rulesA (a :: l) = ruleA a ++ rulesA l := rfl
    rw [this, List.length_append, ih]
    simp [ruleA]
    omega
theorem rulesA_at (l : List Rule3) (k : Nat) (h : k < l.length) : ((rulesA l).drop (k * 3)).take 3 = ruleA (l.getD k (0, ⟨#[]⟩, ⟨#[]⟩)) := by
  induction l generalizing k with
  | nil => exact absurd h (Nat.not_lt_zero _)
  | cons a l ih =>
    have e : rulesA (a :: l) = ruleA a ++ rulesA l := rfl
    rw [e]
    cases k with
    | zero => simp [ruleA]
    | succ k =>
      rw [show (k + 1) * 3 = k * 3 + 1 + 1 + 1 from by omega]
      have := ih k (by simpa using h)
      simp only [ruleA, List.cons_append, List.nil_append, List.drop_succ_cons] at this ⊢
      simpa using this
theorem NR.rulesA (l : List Rule3) : ∀ x ∈ rulesA l, NR x := by
  intro x hx
  simp only [Go.Abs.S.rulesA, List.mem_flatMap] at hx
  obtain ⟨r, _, hr⟩ := hx
  simp only [List.mem_cons, List.not_mem_nil, or_false] at hr
  rcases hr with rfl | rfl | rfl <;> exact NR.v _
/-- The first rule's error. -/
def chkAll (tx : ByteArray → ByteArray × Bool) (now : Int) : List Rule3 → Int
  | [] => 0
  | r :: l => if checkP tx now r = 0 then chkAll tx now l else checkP tx now r
theorem chkAll_step (tx : ByteArray → ByteArray × Bool) (now : Int) (l : List Rule3) (k : Nat) (h : k < l.length) : chkAll tx now (l.drop k) = if checkP tx now (l.getD k (0, ⟨#[]⟩, ⟨#[]⟩)) = 0 then chkAll tx now (l.drop (k + 1)) else checkP tx now (l.getD k (0, ⟨#[]⟩, ⟨#[]⟩)) := by
  rw [List.drop_eq_getElem_cons h, chkAll, List.getD_eq_getElem?_getD, List.getElem?_eq_getElem h]
  rfl
theorem NR.val4 (k : Int) (t : ByteArray) {N V : AV} (hN : NR N) (hV : NR V) : NR (.agg [ivC k, stA t, N, V]) := NR.agg (by
  intro x hx
  simp only [List.mem_cons, List.not_mem_nil, or_false] at hx
  rcases hx with rfl | rfl | rfl | rfl
  · exact NR.v _
  · exact NR.v _
  · exact hN
  · exact hV)
theorem Check_bad (k : Int) (t : ByteArray) (n1 : Nat) (c1 : List AV) (hc1 : ∀ x ∈ c1, NR x) (n2 : Nat) (c2 : List AV) (hc2 : ∀ x ∈ c2, NR x) (now : Int) (g : Int)
    (hg : PCall Tryd.prog glob 11 [.agg [ivC k, stA t, .vsl n1 c1 none, .vsl n2 c2 none]] (ivC g))
    (hb : k ≠ 6 ∨ g ≠ 0) (l : List Rule3) (c : Option Nat) :
    PCall Tryd.prog glob 8 [.agg [ivC k, stA t, .vsl n1 c1 none, .vsl n2 c2 none], ivC now, .vsl l.length (rulesA l) c] (ivC 2) := by
  refine PCall.of ctx.nr (List.forall_mem_cons.2 ⟨NR.val4 _ _ (NR.vsl hc1) (NR.vsl hc2), List.forall_mem_cons.2 ⟨NR.v _, List.forall_mem_cons.2 ⟨NR.vsl (NR.rulesA _), fun _ h => absurd h List.not_mem_nil⟩⟩⟩) (NR.v _) ?_
  refine lcall8 (by simp) 0 (Nat.le_refl _) ?_
  unfold lc8
  simp only [List.length_cons, List.length_nil, Nat.reduceAdd, Nat.reduceSub, List.replicate_succ, List.replicate_zero, List.cons_append, List.nil_append]
  by_cases h6 : k = 6
  · subst h6
    have h0 : g ≠ 0 := hb.resolve_left (fun h => h rfl)
    have d : ((g : Int) != 0) = true := by rw [bne_iff_ne, ne_eq]; omega
    repeat (first
      | (with_reducible refine lops_step fun K hK => ?_; simp (disch := first | exact dch | fail) only [go_sem, Nat.reduceAdd, Nat.reduceSub, reduceIte, Nat.reduceEqDiff, Int.reduceToNat, Int.reduceBEq, Int.reduceBNe, d, splice, List.take_succ_cons, List.take_zero, List.drop_succ_cons, List.drop_zero, List.drop_nil, List.cons_append, List.nil_append, List.append_nil, List.length_cons, List.length_nil, List.replicate_succ, List.replicate_zero, List.flatten_cons, List.flatten_nil, Nat.reduceMul, Nat.reduceAdd, Nat.reduceLeDiff]; (try (first | (refine And.intro (fun _ => ?_) (fun h => absurd h (by decide))) | (refine And.intro (fun h => absurd h (by decide)) (fun _ => ?_)))); (repeat (with_reducible refine And.intro acl ?_)); (first | (refine hK _ _ ?_) | (refine ⟨_, rfl, hK _ _ ?_⟩) | (refine Or.inl (hK _ _ ?_)) | (refine ⟨_, _, Or.inl (hg.go _), (by first | exact ⟨[], (List.append_nil _).symm⟩ | exact ⟨_, rfl⟩), hK _ _ ?_⟩) | (refine ⟨_, _, Or.inl (hg.go _), hK _ _ ?_⟩) | (refine ⟨_, _, Or.inl (hg.go _).weakQ, hK _ _ ?_⟩)); clear hK K)
      | (with_reducible refine lops_nil ?_)
      | (with_reducible first | refine lavc_reg ?_ | refine lavc_seq ?_ | refine lavc_block ?_ | refine lavc_skip ?_ | refine lavc_exit ?_ | refine lavc_ret ?_ | refine lavcR_round ?_)
      | (refine lavc_cond rfl (fun _ => ?_) (fun hc => absurd hc (by decide)))
      | (refine lavc_cond rfl (fun hc => absurd hc (by decide)) (fun _ => ?_))
      | (simp only [↓reduceIte, Nat.reduceEqDiff, reduceCtorEq]))
    refine And.intro (by simp) ?_
    simp (disch := first | exact dch | fail) only [go_sem, Nat.reduceAdd, Nat.reduceSub, reduceIte, Nat.reduceEqDiff, Int.reduceToNat, Int.reduceBEq, Int.reduceBNe, aret, aretL, aret1, aenv]
    (repeat (with_reducible refine And.intro acl ?_))
    exact end0 (NR.v _) rfl
  · have d : ((k : Int) != 6) = true := by rw [bne_iff_ne, ne_eq]; omega
    repeat (first
      | (with_reducible refine lops_step fun K hK => ?_; simp (disch := first | exact dch | fail) only [go_sem, Nat.reduceAdd, Nat.reduceSub, reduceIte, Nat.reduceEqDiff, Int.reduceToNat, Int.reduceBEq, Int.reduceBNe, d, splice, List.take_succ_cons, List.take_zero, List.drop_succ_cons, List.drop_zero, List.drop_nil, List.cons_append, List.nil_append, List.append_nil, List.length_cons, List.length_nil, List.replicate_succ, List.replicate_zero, List.flatten_cons, List.flatten_nil, Nat.reduceMul, Nat.reduceAdd, Nat.reduceLeDiff]; (try (first | (refine And.intro (fun _ => ?_) (fun h => absurd h (by decide))) | (refine And.intro (fun h => absurd h (by decide)) (fun _ => ?_)))); (repeat (with_reducible refine And.intro acl ?_)); (first | (refine hK _ _ ?_) | (refine ⟨_, rfl, hK _ _ ?_⟩) | (refine Or.inl (hK _ _ ?_))); clear hK K)
      | (with_reducible refine lops_nil ?_)
      | (with_reducible first | refine lavc_reg ?_ | refine lavc_seq ?_ | refine lavc_block ?_ | refine lavc_skip ?_ | refine lavc_exit ?_ | refine lavc_ret ?_ | refine lavcR_round ?_)
      | (refine lavc_cond rfl (fun _ => ?_) (fun hc => absurd hc (by decide)))
      | (refine lavc_cond rfl (fun hc => absurd hc (by decide)) (fun _ => ?_))
      | (simp only [↓reduceIte, Nat.reduceEqDiff, reduceCtorEq]))
    refine And.intro (by simp) ?_
    simp (disch := first | exact dch | fail) only [go_sem, Nat.reduceAdd, Nat.reduceSub, reduceIte, Nat.reduceEqDiff, Int.reduceToNat, Int.reduceBEq, Int.reduceBNe, aret, aretL, aret1, aenv]
    (repeat (with_reducible refine And.intro acl ?_))
    exact end0 (NR.v _) rfl
theorem Check_p (n1 : Nat) (c1 : List AV) (hc1 : ∀ x ∈ c1, NR x) (n2 : Nat) (c2 : List AV) (hc2 : ∀ x ∈ c2, NR x) (now : Int)
    (hg : PCall Tryd.prog glob 11 [.agg [ivC 6, stA ⟨#[]⟩, .vsl n1 c1 none, .vsl n2 c2 none]] (ivC 0))
    (tx : ByteArray → ByteArray × Bool)
    (hx : ∀ name, PCall Tryd.prog glob 29 [claA (.vsl n1 c1 none) (.vsl n2 c2 none) now, stA name] (.tup [stA (tx name).1, .v (.bool (tx name).2)]))
    (l : List Rule3) (hl : l.length ≤ 1000) (hr : ∀ r ∈ l, r.1 ≠ 1 → r.1 ≠ 2 → (tx r.2.1).1.size ≤ 1000000) (c : Option Nat) :
    PCall Tryd.prog glob 8 [.agg [ivC 6, stA ⟨#[]⟩, .vsl n1 c1 none, .vsl n2 c2 none], ivC now, .vsl l.length (rulesA l) c] (ivC (chkAll tx now l)) := by
  refine PCall.of ctx.nr (List.forall_mem_cons.2 ⟨NR.val4 _ _ (NR.vsl hc1) (NR.vsl hc2), List.forall_mem_cons.2 ⟨NR.v _, List.forall_mem_cons.2 ⟨NR.vsl (NR.rulesA _), fun _ h => absurd h List.not_mem_nil⟩⟩⟩) (NR.v _) ?_
  refine lcall8 (by simp) 0 (Nat.le_refl _) ?_
  unfold lc8
  simp only [List.length_cons, List.length_nil, Nat.reduceAdd, Nat.reduceSub, List.replicate_succ, List.replicate_zero, List.cons_append, List.nil_append]
  have hlx := rulesA_length l
  have cp := fun r => check_p (.vsl n1 c1 none) (.vsl n2 c2 none) (NR.vsl hc1) (NR.vsl hc2) now tx hx r
  unfold claA ruleA at cp
  obtain ⟨V, hV⟩ : ∃ V, chkAll tx now l = V := ⟨_, rfl⟩
  rw [hV]
  repeat (first
    | (with_reducible refine lops_step fun K hK => ?_; simp (disch := first | exact dch | fail) only [go_sem, Nat.reduceAdd, Nat.reduceSub, reduceIte, Nat.reduceEqDiff, Int.reduceToNat, Int.reduceBEq, Int.reduceBNe, splice, List.take_succ_cons, List.take_zero, List.drop_succ_cons, List.drop_zero, List.drop_nil, List.cons_append, List.nil_append, List.append_nil, List.length_cons, List.length_nil, List.replicate_succ, List.replicate_zero, List.flatten_cons, List.flatten_nil, Nat.reduceMul, Nat.reduceAdd, Nat.reduceLeDiff]; (try (first | (refine And.intro (fun _ => ?_) (fun h => absurd h (by decide))) | (refine And.intro (fun h => absurd h (by decide)) (fun _ => ?_)))); (repeat (with_reducible refine And.intro acl ?_)); (first | (refine hK _ _ ?_) | (refine ⟨_, rfl, hK _ _ ?_⟩) | (refine Or.inl (hK _ _ ?_)) | (refine ⟨_, _, Or.inl (hg.go _), (by first | exact ⟨[], (List.append_nil _).symm⟩ | exact ⟨_, rfl⟩), hK _ _ ?_⟩) | (refine ⟨_, _, Or.inl (hg.go _), hK _ _ ?_⟩) | (refine ⟨_, _, Or.inl (hg.go _).weakQ, hK _ _ ?_⟩)); clear hK K)
    | (with_reducible refine lops_nil ?_)
    | (with_reducible first | refine lavc_reg ?_ | refine lavc_seq ?_ | refine lavc_block ?_ | refine lavc_skip ?_ | refine lavc_exit ?_ | refine lavc_ret ?_ | refine lavcR_round ?_)
    | (refine lavc_cond rfl (fun _ => ?_) (fun hc => absurd hc (by decide)))
    | (refine lavc_cond rfl (fun hc => absurd hc (by decide)) (fun _ => ?_))
    | (simp only [↓reduceIte, Nat.reduceEqDiff, reduceCtorEq]))
  refine lavc_loopM ms8_0 (fun m (x : Nat × AHeap) => m + x.1 = l.length ∧ chkAll tx now (l.drop x.1) = V) (fun x => [(25, ivC x.1)]) (fun x => [Blk.mk [ivC 6, stA ⟨#[]⟩, .vsl n1 c1 none, .vsl n2 c2 none] 0 true 26, Blk.mk [ivC 6, stA ⟨#[]⟩, .vsl n1 c1 none, .vsl n2 c2 none, ivC now] 0 true 52] ++ x.2) l.length (0, []) ⟨by omega, by rw [List.drop_zero]; exact hV⟩ ?_ ?_ ?_
  · simp only [ms8_0, putAll, blank, List.foldl_cons, List.foldl_nil, List.set_cons_succ, List.set_cons_zero, List.cons_append, List.nil_append, ALe, true_or, or_true, and_true, true_and, eq_self, reduceCtorEq, false_or]
    rfl
  · rfl
  rintro m ⟨k, gg⟩ ⟨hk, hi⟩
  simp only at hk hi ⊢
  simp only [ms8_0, putAll, blank, List.foldl_cons, List.foldl_nil, List.set_cons_succ, List.set_cons_zero, List.cons_append, List.nil_append]
  refine go1 tt tt tt tt ⟨?_⟩
  refine lavc_cond rfl (fun hc => ?_) (fun hc => ?_) <;> try simp only [decide_eq_true_eq, decide_eq_false_iff_not, Int.not_lt, Int.not_le, beq_iff_eq, bne_iff_ne, bne_eq_false_iff_eq, beq_eq_false_iff_ne, ne_eq, Bool.not_eq_true', Bool.not_eq_false'] at hc
  · have hkl : k < l.length := by omega
    have hat := rulesA_at l k hkl
    rw [chkAll_step tx now l k hkl] at hi
    obtain ⟨⟨ask, name, want⟩, hy⟩ : ∃ y, l.getD k (0, ⟨#[]⟩, ⟨#[]⟩) = y := ⟨_, rfl⟩
    rw [hy] at hat hi
    unfold ruleA at hat
    have hyl : (ask, name, want) ∈ l := by
      rw [← hy, List.getD_eq_getElem?_getD, List.getElem?_eq_getElem hkl]
      exact List.getElem_mem hkl
    have cp := cp (ask, name, want) (hr _ hyl)
    have e3 := i64n ((k : Int) + 1) (k + 1) (by omega) (by omega)
    obtain ⟨w, hw⟩ : ∃ w, checkP tx now (ask, name, want) = w := ⟨_, rfl⟩
    rw [hw] at cp hi
    by_cases h0 : w = 0
    · subst h0
      rw [if_pos rfl] at hi
      refine gc1 (an hat (an hlx (an e3 tt))) (an cp.go tt) tt tt ⟨?_⟩
      refine ⟨m - 1, (k + 1, gg ++ [⟨[ivC ask, stA name, stA want], 0, true, 40⟩]), by omega, ⟨by show m - 1 + (k + 1) = l.length; omega, hi⟩, ?_, (by first | rfl | trivial)⟩
      simp only [ms8_0, putAll, blank, List.foldl_cons, List.foldl_nil, List.set_cons_succ, List.set_cons_zero, List.cons_append, List.nil_append, ALe, true_or, or_true, and_true, true_and, eq_self, reduceCtorEq, false_or]
    · rw [if_neg h0] at hi
      have d : ((w : Int) != 0) = true := by rw [bne_iff_ne, ne_eq]; omega
      refine gc1 (an hat (an hlx (an d (an e3 tt)))) (an cp.go tt) tt tt ⟨?_⟩
      refine And.intro (by simp) ?_
      simp (disch := first | exact dch | fail) only [go_sem, Nat.reduceAdd, Nat.reduceSub, reduceIte, Nat.reduceEqDiff, Int.reduceToNat, Int.reduceBEq, Int.reduceBNe, aret, aretL, aret1, aenv]
      (repeat (with_reducible refine And.intro acl ?_))
      exact end0 (NR.v _) (by rw [← hi])
  · have hk2 : k = l.length := by omega
    rw [hk2, List.drop_length] at hi
    refine gc1 tt tt tt tt ⟨?_⟩
    refine And.intro (by simp) ?_
    simp (disch := first | exact dch | fail) only [go_sem, Nat.reduceAdd, Nat.reduceSub, reduceIte, Nat.reduceEqDiff, Int.reduceToNat, Int.reduceBEq, Int.reduceBNe, aret, aretL, aret1, aenv]
    (repeat (with_reducible refine And.intro acl ?_))
    exact end0 (NR.v _) (by rw [← hi]; rfl)
abbrev issB : ByteArray := ⟨#[105, 115, 115]⟩
abbrev audB : ByteArray := ⟨#[97, 117, 100]⟩
abbrev nbfB : ByteArray := ⟨#[110, 98, 102]⟩
abbrev expB : ByteArray := ⟨#[101, 120, 112]⟩
def usualP (i a : ByteArray) : List Rule3 := [(1, issB, i), (1, audB, a), (3, nbfB, ⟨#[]⟩), (4, expB, ⟨#[]⟩)]
theorem Usual_p (i a : ByteArray) : PCall Tryd.prog glob 16 [stA i, stA a] (.vsl 4 (rulesA (usualP i a)) (some 4)) := by
  refine PCall.of ctx.nr (List.forall_mem_cons.2 ⟨NR.v _, List.forall_mem_cons.2 ⟨NR.v _, fun _ h => absurd h List.not_mem_nil⟩⟩) (NR.vsl (NR.rulesA _)) ?_
  refine lcall16 (by simp) 0 (Nat.le_refl _) ?_
  have hnr := NR.rulesA (usualP i a)
  unfold rulesA usualP ruleA at hnr ⊢
  simp only [List.flatMap_cons, List.flatMap_nil, List.cons_append, List.nil_append] at hnr ⊢
  unfold lc16
  simp only [List.length_cons, List.length_nil, Nat.reduceAdd, Nat.reduceSub, List.replicate_succ, List.replicate_zero, List.cons_append, List.nil_append]
  repeat (first
    | (with_reducible refine lops_step fun K hK => ?_; simp (disch := first | exact dch | fail) only [go_sem, Nat.reduceAdd, Nat.reduceSub, reduceIte, Nat.reduceEqDiff, Int.reduceToNat, Int.reduceBEq, Int.reduceBNe, splice, List.take_succ_cons, List.take_zero, List.drop_succ_cons, List.drop_zero, List.drop_nil, List.cons_append, List.nil_append, List.append_nil, List.length_cons, List.length_nil, List.replicate_succ, List.replicate_zero, List.flatten_cons, List.flatten_nil, Nat.reduceMul, Nat.reduceAdd, Nat.reduceLeDiff]; (try (first | (refine And.intro (fun _ => ?_) (fun h => absurd h (by decide))) | (refine And.intro (fun h => absurd h (by decide)) (fun _ => ?_)))); (repeat (with_reducible refine And.intro acl ?_)); (first | (refine hK _ _ ?_) | (refine ⟨_, rfl, hK _ _ ?_⟩) | (refine Or.inl (hK _ _ ?_))); clear hK K)
    | (with_reducible refine lops_nil ?_)
    | (with_reducible first | refine lavc_reg ?_ | refine lavc_seq ?_ | refine lavc_block ?_ | refine lavc_skip ?_ | refine lavc_exit ?_ | refine lavc_ret ?_ | refine lavcR_round ?_)
    | (refine lavc_cond rfl (fun _ => ?_) (fun hc => absurd hc (by decide)))
    | (refine lavc_cond rfl (fun hc => absurd hc (by decide)) (fun _ => ?_))
    | (simp only [↓reduceIte, Nat.reduceEqDiff, reduceCtorEq]))
  refine And.intro (by simp) ?_
  simp (disch := first | exact dch | fail) only [go_sem, Nat.reduceAdd, Nat.reduceSub, reduceIte, Nat.reduceEqDiff, Int.reduceToNat, Int.reduceBEq, Int.reduceBNe, aret, aretL, aret1, aenv]
  (repeat (with_reducible refine And.intro acl ?_))
  exact end0 (NR.vsl hnr) rfl
end Go.Abs.S
namespace Go.Abs.S
attribute [local go_sem] lguard aopO aop nxL aenv toAV tput aLoad aStore vcells aBin aNilI aUn aAlloc aBox aBuild aBSlice afill aConv isIntT aappZ aCap aArr aMM aMake aSlice bnd3 bnd aFldAddr aFld aIdxAddr aIdx aExt aLen aCopy aEq0 bAV aUb aapp aappQ agh acont List.getD_cons_zero List.getD_cons_succ List.set_cons_zero List.set_cons_succ List.getElem?_cons_zero List.getElem?_cons_succ List.length_cons List.length_nil List.map_cons List.map_nil ints_length if_true if_false Bool.false_eq_true true_and and_true eq_self ne_eq not_false_eq_true not_true_eq_false beq_self_eq_true Nat.zero_add Nat.add_zero Nat.mul_one Nat.zero_mul Int.toNat_natCast List.toList_toArray List.all_cons List.all_nil AV.one Value.oneCell' Bool.and_true Bool.true_and forall_const true_implies false_implies implies_true Option.map_some Option.map_none Option.isSome_some Option.isSome_none imp_self rdP_flat rdP_row splice_one ints_set ints_get List.append_nil List.cons_append List.nil_append List.getElem?_toArray List.drop_zero ints_drop ints_take List.take_of_length_le splice_all ints_one Option.some.injEq Option.getD_some List.length_replicate zArr List.map_replicate rep_ints splice_intsR List.length_set List.length_append List.flatten_replicate_singleton rep_slice rep_string rep_bool rep_iface List.replicate_zero if_pos if_neg List.mapM_cons List.mapM_nil Option.pure_def Option.bind_eq_bind Option.bind_some Bool.true_eq_false Bool.not_false Bool.not_true get_concat set_concat
open Go.Proofs
set_option linter.unusedVariables false
set_option linter.unusedSimpArgs false
set_option maxRecDepth 100000
theorem strs_append (a b : List ByteArray) : strs a ++ strs b = strs (a ++ b) := by simp [strs]
theorem strs_one (a : List ByteArray) : (strs a).all AV.one = true := by
  rw [List.all_eq_true]
  intro x hx
  simp only [strs, List.mem_map] at hx
  obtain ⟨y, _, rfl⟩ := hx
  rfl
theorem strs_take (a : List ByteArray) (k : Nat) : (strs a).take k = strs (a.take k) := by simp [strs, List.map_take]
theorem growS (n : Nat) (h0 : 0 < n) (h1 : n ≤ 1000000) : NCall Tryd.prog glob 41 [.v (.slice none 0 0), .v (.int .i64 n)] 9 0 n 1 false (strs (List.replicate n ⟨#[]⟩)) := by
  refine NCall.of (v := 0) ctx.nr nrs (NR.strs _) ?_
  refine lcall41 (by simp) 1 (Nat.zero_le _) ?_
  unfold lc41
  simp only [List.length_cons, List.length_nil, Nat.reduceAdd, Nat.reduceSub, List.replicate_succ, List.replicate_zero, List.cons_append, List.nil_append]
  have e2 := i64z (0 : Int) (by omega)
  have e3 := i64z (n : Int) (by omega)
  have e4 : (List.replicate n [stA ⟨#[]⟩]).flatten = strs (List.replicate n ⟨#[]⟩) := by simp [strs]
  repeat (first
    | (with_reducible refine lops_step fun K hK => ?_; simp (disch := first | exact dch | fail) only [go_sem, Nat.reduceAdd, Nat.reduceSub, reduceIte, Nat.reduceEqDiff, Int.reduceToNat, Int.reduceBEq, Int.reduceBNe, Int.sub_self, Int.sub_zero, e2, e3]; (repeat (with_reducible refine And.intro acl ?_)); (first | (refine hK _ _ ?_) | (refine ⟨_, rfl, hK _ _ ?_⟩) | (refine Or.inl (hK _ _ ?_))); clear hK K)
    | (with_reducible refine lops_nil ?_)
    | (with_reducible first | refine lavc_reg ?_ | refine lavc_seq ?_ | refine lavc_block ?_ | refine lavc_skip ?_ | refine lavc_exit ?_ | refine lavc_ret ?_ | refine lavcR_round ?_)
    | (simp only [↓reduceIte, Nat.reduceEqDiff, reduceCtorEq]))
  refine lavc_cond rfl (fun hc => ?_) (fun hc => ?_) <;> try simp only [decide_eq_true_eq, decide_eq_false_iff_not, Int.not_lt, Int.not_le, beq_iff_eq, bne_iff_ne, bne_eq_false_iff_eq, beq_eq_false_iff_ne, ne_eq, Bool.not_eq_true', Bool.not_eq_false'] at hc
  · exact absurd hc (by omega)
  · repeat (first
      | (with_reducible refine lops_step fun K hK => ?_; simp (disch := first | exact dch | fail) only [go_sem, Nat.reduceAdd, Nat.reduceSub, reduceIte, Nat.reduceEqDiff, Int.reduceToNat, Int.reduceBEq, Int.reduceBNe, Int.sub_self, Int.sub_zero, e2, e3]; (repeat (with_reducible refine And.intro acl ?_)); (first | (refine hK _ _ ?_) | (refine ⟨_, rfl, hK _ _ ?_⟩) | (refine Or.inl (hK _ _ ?_))); clear hK K)
      | (with_reducible refine lops_nil ?_)
      | (with_reducible first | refine lavc_reg ?_ | refine lavc_seq ?_ | refine lavc_block ?_ | refine lavc_skip ?_ | refine lavc_exit ?_ | refine lavc_ret ?_ | refine lavcR_round ?_)
      | (simp only [↓reduceIte, Nat.reduceEqDiff, reduceCtorEq]))
    refine lavc_cond rfl (fun hc => ?_) (fun hc => ?_) <;> try simp only [decide_eq_true_eq, decide_eq_false_iff_not, Int.not_lt, Int.not_le, beq_iff_eq, bne_iff_ne, bne_eq_false_iff_eq, beq_eq_false_iff_ne, ne_eq, Bool.not_eq_true', Bool.not_eq_false'] at hc
    · repeat (first
        | (with_reducible refine lops_step fun K hK => ?_; simp (disch := first | exact dch | fail) only [go_sem, Nat.reduceAdd, Nat.reduceSub, reduceIte, Nat.reduceEqDiff, Int.reduceToNat, Int.reduceBEq, Int.reduceBNe, e4, Value.cells, List.map_cons, List.map_nil, Int.ofNat_le]; (repeat (with_reducible refine And.intro acl ?_)); (first | (refine hK _ _ ?_) | (refine ⟨_, rfl, hK _ _ ?_⟩) | (refine Or.inl (hK _ _ ?_))); clear hK K)
        | (with_reducible refine lops_nil ?_)
        | (with_reducible first | refine lavc_reg ?_ | refine lavc_seq ?_ | refine lavc_block ?_ | refine lavc_skip ?_ | refine lavc_exit ?_ | refine lavc_ret ?_ | refine lavcR_round ?_)
        | (simp only [↓reduceIte, Nat.reduceEqDiff, reduceCtorEq]))
      refine And.intro (by simp) ?_
      simp (disch := first | exact dch | fail) only [go_sem, Nat.reduceAdd, Nat.reduceSub, reduceIte, Nat.reduceEqDiff, Int.reduceToNat, Int.reduceBEq, Int.reduceBNe, aret, aretL, aret1, aenv]
      (repeat (with_reducible refine And.intro acl ?_))
      exact endN (NR.strs _) rfl
    · exact absurd hc (by omega)
/-- The first k rows, one behind the other. -/
def catS (rs : List (List ByteArray)) (k : Nat) : List ByteArray := (rs.take k).flatten
theorem catS_step (rs : List (List ByteArray)) (k : Nat) (h : k < rs.length) : catS rs (k + 1) = catS rs k ++ rs.getD k [] := by
  unfold catS
  rw [List.take_succ_eq_append_getElem h, List.flatten_append, List.getD_eq_getElem?_getD, List.getElem?_eq_getElem h]
  simp
theorem catS_all (rs : List (List ByteArray)) : catS rs rs.length = rs.flatten := by simp [catS]
theorem catS_le (rs : List (List ByteArray)) (k : Nat) : (catS rs k).length ≤ rs.flatten.length := by
  unfold catS
  conv => rhs; rw [← List.take_append_drop k rs, List.flatten_append, List.length_append]
  omega
/-- Rows, each with what it holds. -/
def RwsS (xs : List AV) (rs : List (List ByteArray)) : Prop := xs.length = rs.length ∧ ∀ k, k < rs.length → ∃ cx, xs.getD k .any = .vsl (rs.getD k []).length (strs (rs.getD k [])) cx
theorem RwsS.nr {xs : List AV} {rs : List (List ByteArray)} (h : RwsS xs rs) : ∀ x ∈ xs, NR x := by
  intro x hx
  obtain ⟨j, hj, rfl⟩ := List.mem_iff_getElem.1 hx
  obtain ⟨cx, e⟩ := h.2 j (by have := h.1; omega)
  rw [List.getD_eq_getElem?_getD, List.getElem?_eq_getElem hj] at e
  rw [show xs[j] = _ from e]
  exact NR.vsl (NR.strs _)
theorem RwsS.nil : RwsS [] [] := ⟨rfl, fun k hk => absurd hk (Nat.not_lt_zero _)⟩
theorem RwsS.cons {xs : List AV} {rs : List (List ByteArray)} {r : List ByteArray} {n : Nat} {cx : Option Nat} (hn : r.length = n) (h : RwsS xs rs) : RwsS (.vsl n (strs r) cx :: xs) (r :: rs) := by
  subst hn
  refine ⟨by simp [h.1], fun k hk => ?_⟩
  cases k with
  | zero => exact ⟨cx, rfl⟩
  | succ k => exact h.2 k (by simpa using hk)
theorem concatS_n (xs : List AV) (cx : Option Nat) (rs : List (List ByteArray)) (hr : RwsS xs rs) (T : List ByteArray) (hT : rs.flatten = T) (h0 : 0 < T.length) (h1 : T.length ≤ 1000000) (h2 : rs.length ≤ 1000000) :
    NCall Tryd.prog glob 25 [.vsl rs.length xs cx] 9 T.length T.length 1 false (strs T) := by
  subst hT
  refine NCall.of (v := rs.length) ctx.nr (by intro a ha; rw [List.mem_singleton] at ha; subst ha; exact NR.vsl hr.nr) (NR.strs _) ?_
  refine lcall25 (by simp) 1 (Nat.zero_le _) ?_
  unfold lc25
  simp only [List.length_cons, List.length_nil, Nat.reduceAdd, Nat.reduceSub, List.replicate_succ, List.replicate_zero, List.cons_append, List.nil_append]
  have hxl := hr.1
  refine go1 tt tt tt tt ⟨?_⟩
  refine lavc_loopM ms25_0 (fun n (k : Nat) => n + k = rs.length) (fun k => [(3, .v (.int .i64 (catS rs k).length)), (11, .v (.int .i64 k))]) (fun k => []) rs.length 0 rfl ?_ rfl ?_
  · simp only [ms25_0, putAll, blank, List.foldl_cons, List.foldl_nil, List.set_cons_succ, List.set_cons_zero, List.cons_append, List.nil_append, ALe, true_or, or_true, and_true, true_and, eq_self, reduceCtorEq, false_or]
    exact ⟨rfl, rfl⟩
  · intro n k hk
    simp only [ms25_0, putAll, blank, List.foldl_cons, List.foldl_nil, List.set_cons_succ, List.set_cons_zero, List.cons_append, List.nil_append]
    refine go1 tt tt tt tt ⟨?_⟩
    refine lavc_cond rfl (fun hc => ?_) (fun hc => ?_) <;> try simp only [decide_eq_true_eq, decide_eq_false_iff_not, Int.not_lt, Int.not_le, beq_iff_eq, bne_iff_ne, bne_eq_false_iff_eq, beq_eq_false_iff_ne, ne_eq, Bool.not_eq_true', Bool.not_eq_false'] at hc
    · obtain ⟨c1, hrow⟩ := hr.2 k (by omega)
      have hs := catS_step rs k (by omega)
      have hle := catS_le rs (k + 1)
      have hs2 : (catS rs (k + 1)).length = (catS rs k).length + (rs.getD k []).length := by rw [hs, List.length_append]
      have e1 := i64n (((catS rs k).length : Int) + ((rs.getD k []).length : Int)) (catS rs (k + 1)).length (by omega) (by omega)
      have e2 := i64n ((k : Int) + 1) (k + 1) (by omega) (by omega)
      refine go1 (an hrow (an e1 tt)) tt tt tt ⟨?_⟩
      refine lavc_cond rfl (fun hc => ?_) (fun hc => ?_) <;> try simp only [decide_eq_true_eq, decide_eq_false_iff_not, Int.not_lt, Int.not_le, beq_iff_eq, bne_iff_ne, bne_eq_false_iff_eq, beq_eq_false_iff_ne, ne_eq, Bool.not_eq_true', Bool.not_eq_false'] at hc
      · exact absurd hc (by omega)
      · refine go1 (an e2 tt) tt tt tt ⟨?_⟩
        refine ⟨n - 1, k + 1, by omega, by omega, ?_, (by first | rfl | trivial)⟩
        simp only [ms25_0, putAll, blank, List.foldl_cons, List.foldl_nil, List.set_cons_succ, List.set_cons_zero, List.cons_append, List.nil_append, ALe, true_or, or_true, and_true, true_and, eq_self, reduceCtorEq, false_or]
    · have : k = rs.length := by omega
      subst this
      have c := growS rs.flatten.length h0 h1
      repeat (first
        | (with_reducible refine lops_step fun K hK => ?_; simp (disch := first | exact dch | fail) only [go_sem, Nat.reduceAdd, Nat.reduceSub, reduceIte, Nat.reduceEqDiff, Int.reduceToNat, Int.reduceBEq, Int.reduceBNe, catS_all]; (repeat (with_reducible refine And.intro acl ?_)); (first | (refine hK _ _ ?_) | (refine ⟨_, rfl, hK _ _ ?_⟩) | (refine Or.inl (hK _ _ ?_)) | (refine ⟨_, _, Or.inl (c.go _), (by first | exact ⟨[], (List.append_nil _).symm⟩ | exact ⟨_, rfl⟩), hK _ _ ?_⟩) | (refine ⟨_, _, Or.inl (c.go _), hK _ _ ?_⟩) | (refine ⟨_, _, Or.inl (c.go _).weakQ, hK _ _ ?_⟩)); clear hK K)
        | (with_reducible refine lops_nil ?_)
        | (with_reducible first | refine lavc_reg ?_ | refine lavc_seq ?_ | refine lavc_block ?_ | refine lavc_skip ?_ | refine lavc_exit ?_ | refine lavc_ret ?_ | refine lavcR_round ?_)
        | (simp only [↓reduceIte, Nat.reduceEqDiff, reduceCtorEq]))
      refine lavc_loopM ms25_1 (fun n (x : Nat × Nat × List ByteArray) => n + x.1 = rs.length ∧ catS rs x.1 = x.2.2.take (catS rs x.1).length ∧ (catS rs x.1).length ≤ x.2.2.length ∧ (0 < x.1 → x.2.1 = (catS rs x.1).length ∧ x.2.2 = catS rs x.1)) (fun x => [(6, .sl 0 x.1 0 (catS rs x.1).length x.2.1 1 false), (27, .v (.int .i64 x.1))]) (fun x => [⟨strs x.2.2, x.1, true, 9⟩]) rs.length (0, rs.flatten.length, List.replicate rs.flatten.length ⟨#[]⟩) ⟨rfl, by simp [catS], by simp [catS], fun h => absurd h (by simp)⟩ ?_ rfl ?_
      · simp only [ms25_1, putAll, blank, List.foldl_cons, List.foldl_nil, List.set_cons_succ, List.set_cons_zero, List.cons_append, List.nil_append, ALe, true_or, or_true, and_true, true_and, eq_self, reduceCtorEq, false_or]
        exact ⟨rfl, rfl⟩
      · rintro n ⟨k, cap, cs⟩ ⟨hk, hcs, hcl, hpos⟩
        simp only at hk hcs hcl hpos
        simp only [ms25_1, putAll, blank, List.foldl_cons, List.foldl_nil, List.set_cons_succ, List.set_cons_zero, List.cons_append, List.nil_append]
        refine go1 tt tt tt tt ⟨?_⟩
        refine lavc_cond rfl (fun hc => ?_) (fun hc => ?_) <;> try simp only [decide_eq_true_eq, decide_eq_false_iff_not, Int.not_lt, Int.not_le, beq_iff_eq, bne_iff_ne, bne_eq_false_iff_eq, beq_eq_false_iff_ne, ne_eq, Bool.not_eq_true', Bool.not_eq_false'] at hc
        · obtain ⟨c1, hrow⟩ := hr.2 k (by omega)
          have hs := catS_step rs k (by omega)
          have hle := catS_le rs (k + 1)
          have hs2 : (catS rs (k + 1)).length = (catS rs k).length + (rs.getD k []).length := by rw [hs, List.length_append]
          have e2 := i64n ((k : Int) + 1) (k + 1) (by omega) (by omega)
          repeat (first
            | (with_reducible refine lops_step fun K hK => ?_; simp (disch := first | exact dch | fail) only [go_sem, Nat.reduceAdd, Nat.reduceSub, reduceIte, Nat.reduceEqDiff, Int.reduceToNat, Int.reduceBEq, Int.reduceBNe, hrow, e2, strs_length, strs_one, strs_take, ← hs2, ← hcs, strs_append, ← hs]; (repeat (with_reducible refine And.intro acl ?_)); (first | (refine hK _ _ ?_) | (refine ⟨_, rfl, hK _ _ ?_⟩) | (refine Or.inl (hK _ _ ?_))); clear hK K)
            | (with_reducible refine lops_nil ?_)
            | (with_reducible first | refine lavc_reg ?_ | refine lavc_seq ?_ | refine lavc_block ?_ | refine lavc_skip ?_ | refine lavc_exit ?_ | refine lavc_ret ?_ | refine lavcR_round ?_)
            | (simp only [↓reduceIte, Nat.reduceEqDiff, reduceCtorEq]))
          refine ⟨n - 1, (k + 1, (catS rs (k + 1)).length, catS rs (k + 1)), by omega, ⟨by simp only; omega, by simp, by simp, fun _ => ⟨rfl, rfl⟩⟩, ?_, (by first | rfl | trivial)⟩
          simp only [ms25_1, putAll, blank, List.foldl_cons, List.foldl_nil, List.set_cons_succ, List.set_cons_zero, List.cons_append, List.nil_append, ALe, true_or, or_true, and_true, true_and, eq_self, reduceCtorEq, false_or]
        · have : k = rs.length := by omega
          subst this
          have hpos1 : 0 < rs.length := by
            cases rs with
            | nil => simp at h0
            | cons => simp
          obtain ⟨rfl, rfl⟩ := hpos hpos1
          repeat (first
            | (with_reducible refine lops_step fun K hK => ?_; simp (disch := first | exact dch | fail) only [go_sem, Nat.reduceAdd, Nat.reduceSub, reduceIte, Nat.reduceEqDiff, Int.reduceToNat, Int.reduceBEq, Int.reduceBNe, catS_all]; (repeat (with_reducible refine And.intro acl ?_)); (first | (refine hK _ _ ?_) | (refine ⟨_, rfl, hK _ _ ?_⟩) | (refine Or.inl (hK _ _ ?_))); clear hK K)
            | (with_reducible refine lops_nil ?_)
            | (with_reducible first | refine lavc_reg ?_ | refine lavc_seq ?_ | refine lavc_block ?_ | refine lavc_skip ?_ | refine lavc_exit ?_ | refine lavc_ret ?_ | refine lavcR_round ?_)
            | (simp only [↓reduceIte, Nat.reduceEqDiff, reduceCtorEq]))
          refine And.intro (by simp) ?_
          simp (disch := first | exact dch | fail) only [go_sem, Nat.reduceAdd, Nat.reduceSub, reduceIte, Nat.reduceEqDiff, Int.reduceToNat, Int.reduceBEq, Int.reduceBNe, aret, aretL, aret1, aenv, catS_all]
          (repeat (with_reducible refine And.intro acl ?_))
          exact endN (NR.strs _) rfl
theorem concatS_p (xs : List AV) (cx : Option Nat) (rs : List (List ByteArray)) (hr : RwsS xs rs) (T : List ByteArray) (hT : rs.flatten = T) (h0 : 0 < T.length) (h1 : T.length ≤ 1000000) (h2 : rs.length ≤ 1000000) :
    PCall Tryd.prog glob 25 [.vsl rs.length xs cx] (.vsl T.length (strs T) none) := by
  have := (concatS_n xs cx rs hr T hT h0 h1 h2).view ctx.nr (by intro a ha; rw [List.mem_singleton] at ha; subst ha; exact NR.vsl hr.nr) (NR.strs _) (Nat.le_refl _) (by simp [strs_length])
  rwa [show (strs T).take (T.length * 1) = strs T from List.take_of_length_le (by simp [strs_length])] at this
end Go.Abs.S
namespace Go.Abs.S
open Go.Proofs
open Go.Abs.H
set_option linter.unusedVariables false
set_option linter.unusedSimpArgs false
set_option maxRecDepth 100000
set_option maxHeartbeats 4000000
def ltI : List Int → List Int → Prop
  | _, [] => False
  | [], _ :: _ => True
  | a :: x, b :: y => a < b ∨ (a = b ∧ ltI x y)
theorem ltI_irr : ∀ x, ¬ ltI x x
  | [], h => h
  | a :: x, h => by
    rcases h with h | ⟨_, h⟩
    · omega
    · exact ltI_irr x h
theorem ltI_asym : ∀ {x y}, ltI x y → ¬ ltI y x
  | x, [], h, _ => by cases x <;> exact h.elim
  | [], _ :: _, _, h => h.elim
  | a :: x, b :: y, h, g => by
    rcases h with h | ⟨h1, h2⟩ <;> rcases g with g | ⟨g1, g2⟩
    · omega
    · omega
    · omega
    · exact ltI_asym h2 g2
theorem ltI_app (p x y : List Int) : ltI (p ++ x) (p ++ y) ↔ ltI x y := by
  induction p with
  | nil => exact Iff.rfl
  | cons a p ih =>
    show (a < a ∨ (a = a ∧ ltI (p ++ x) (p ++ y))) ↔ _
    rw [ih]
    constructor
    · rintro (h | ⟨_, h⟩)
      · omega
      · exact h
    · exact fun h => .inr ⟨rfl, h⟩
abbrev By0 (l : List Int) : Prop := ∀ x ∈ l, 0 ≤ x ∧ x ≤ 255
theorem less_iff : ∀ {l m : List Int}, By0 l → By0 m → (Op.bytesLess (l.map fun n => UInt8.ofNat n.toNat) (m.map fun n => UInt8.ofNat n.toNat) = true ↔ ltI l m)
  | [], [], _, _ => by simp [Op.bytesLess, ltI]
  | _ :: _, [], _, _ => by simp [Op.bytesLess, ltI]
  | [], _ :: _, _, _ => by simp [Op.bytesLess, ltI]
  | a :: x, b :: y, hl, hm => by
    have ih := less_iff (l := x) (m := y) (fun z hz => hl z (List.mem_cons_of_mem _ hz)) (fun z hz => hm z (List.mem_cons_of_mem _ hz))
    have ha := hl a List.mem_cons_self
    have hb := hm b List.mem_cons_self
    have e1 : (UInt8.ofNat a.toNat < UInt8.ofNat b.toNat) ↔ a < b := by
      rw [UInt8.lt_iff_toNat_lt]
      simp only [UInt8.toNat_ofNat']
      omega
    have e2 : (UInt8.ofNat a.toNat = UInt8.ofNat b.toNat) ↔ a = b := by
      rw [← UInt8.toNat_inj]
      simp only [UInt8.toNat_ofNat']
      omega
    simp only [List.map_cons, Op.bytesLess, ltI, Bool.or_eq_true, Bool.and_eq_true, decide_eq_true_eq, beq_iff_eq, e1, e2, ih]
theorem str_less {l m : List Int} (hl : By0 l) (hm : By0 m) : Op.bytesLess (strOf l).toList (strOf m).toList = true ↔ ltI l m := by
  rw [str_list, str_list]
  exact less_iff hl hm
theorem ext_strOf (l : List Int) (a b : Nat) : (strOf l).extract a b = strOf ((l.take b).drop a) := by
  apply WideShapes.bytes_inj
  rw [Go.Abs.C.ext_list]
  simp [strOf, List.map_take, List.map_drop]
theorem bt_str {l : List Int} (hl : By0 l) (i : Nat) (h : i < l.length) : bt (strOf l) i = l.getD i 0 := by
  unfold bt strOf
  have hx := hl _ (List.getElem_mem h)
  simp only [List.getD_eq_getElem?_getD, List.getElem?_map, List.getElem?_eq_getElem h, Option.map_some, Option.getD_some]
  simp only [UInt8.toNat_ofNat']
  omega
abbrev c48 (n : Nat) : Int := ((48 + n % 10 : Nat) : Int)
/-- A moment's text, byte by byte. -/
theorem txt_list (t : Mom) : txt t = [c48 (t.x.y.toNat / 1000), c48 (t.x.y.toNat / 100), c48 (t.x.y.toNat / 10), c48 t.x.y.toNat, 45, c48 (t.x.m.toNat / 10), c48 t.x.m.toNat, 45, c48 (t.x.d.toNat / 10), c48 t.x.d.toNat, 84, c48 (t.h.toNat / 10), c48 t.h.toNat, 58, c48 (t.i.toNat / 10), c48 t.i.toNat, 58, c48 (t.s.toNat / 10), c48 t.s.toNat, 90] := by
  unfold txt
  simp only [digs2, digs4]
  rfl
theorem c48_in (n : Nat) : 0 ≤ c48 n ∧ c48 n ≤ 255 := by
  unfold c48
  omega
theorem txt_by (t : Mom) : By0 (txt t) := by
  rw [txt_list]
  intro x hx
  simp only [List.mem_cons, List.not_mem_nil, or_false] at hx
  rcases hx with rfl | rfl | rfl | rfl | rfl | rfl | rfl | rfl | rfl | rfl | rfl | rfl | rfl | rfl | rfl | rfl | rfl | rfl | rfl | rfl <;> first | exact c48_in _ | decide
theorem txt_length (t : Mom) : (txt t).length = 20 := by rw [txt_list]; rfl
/-- One moment ahead of another. -/
def lexLt (a b : Mom) : Prop := a.x.y < b.x.y ∨ (a.x.y = b.x.y ∧ (a.x.m < b.x.m ∨ (a.x.m = b.x.m ∧ (a.x.d < b.x.d ∨ (a.x.d = b.x.d ∧ (a.h < b.h ∨ (a.h = b.h ∧ (a.i < b.i ∨ (a.i = b.i ∧ a.s < b.s)))))))))
theorem lex_secs {a b : Mom} (ha : a.ok) (hb : b.ok) (h : lexLt a b) : secs a < secs b := by
  rcases h with h | ⟨h1, h | ⟨h2, h | ⟨h3, h⟩⟩⟩
  · exact secs_lt ha hb (.inl (day_lt ha.1 hb.1 (.inl h)))
  · exact secs_lt ha hb (.inl (day_lt ha.1 hb.1 (.inr ⟨h1, .inl h⟩)))
  · exact secs_lt ha hb (.inl (day_lt ha.1 hb.1 (.inr ⟨h1, .inr ⟨h2, h⟩⟩)))
  · refine secs_lt ha hb (.inr ⟨?_, h⟩)
    unfold dayN
    rw [h1, h2, h3]
theorem lex_tri (a b : Mom) : lexLt a b ∨ a = b ∨ lexLt b a := by
  obtain ⟨⟨y, m, d⟩, h, i, s⟩ := a
  obtain ⟨⟨y', m', d'⟩, h', i', s'⟩ := b
  unfold lexLt
  simp only [Mom.mk.injEq, Date.mk.injEq]
  omega
theorem dig_lt {a b : Int} (x y : List Int) (ha : 0 ≤ a) (h : a < b) (hb : b < 100) : ltI (digs a.toNat 2 ++ x) (digs b.toNat 2 ++ y) := by
  simp only [digs2, List.cons_append, List.nil_append, ltI]
  omega
theorem dig_lt4 {a b : Int} (x y : List Int) (ha : 0 ≤ a) (h : a < b) (hb : b < 10000) : ltI (digs a.toNat 4 ++ x) (digs b.toNat 4 ++ y) := by
  simp only [digs4, List.cons_append, List.nil_append, ltI]
  obtain ⟨n, rfl⟩ := Int.eq_ofNat_of_zero_le ha
  obtain ⟨m, rfl⟩ := Int.eq_ofNat_of_zero_le (show 0 ≤ b by omega)
  simp only [Int.toNat_natCast]
  have g0 : n / 1000 % 10 = n / 1000 := by omega
  have g1 : m / 1000 % 10 = m / 1000 := by omega
  rw [g0, g1]
  by_cases h1 : n / 1000 < m / 1000
  · exact .inl (by omega)
  have h1' : n / 1000 = m / 1000 := by omega
  refine .inr ⟨by rw [h1'], ?_⟩
  by_cases h2 : n / 100 < m / 100
  · exact .inl (by omega)
  have h2' : n / 100 = m / 100 := by omega
  refine .inr ⟨by rw [h2'], ?_⟩
  by_cases h3 : n / 10 < m / 10
  · exact .inl (by omega)
  have h3' : n / 10 = m / 10 := by omega
  refine .inr ⟨by rw [h3'], .inl (by omega)⟩
theorem ltI_cons (c : Int) (x y : List Int) : ltI (c :: x) (c :: y) ↔ ltI x y := ltI_app [c] x y
theorem lex_txt {a b : Mom} (ha : a.ok) (hb : b.ok) (h : lexLt a b) : ltI (txt a) (txt b) := by
  have aa := ha.1.all
  have ab := hb.1.all
  have a2 := ha.2
  have b2 := hb.2
  unfold txt
  simp only [List.append_assoc, List.cons_append]
  rcases h with h | ⟨h1, h | ⟨h2, h | ⟨h3, h | ⟨h4, h | ⟨h5, h⟩⟩⟩⟩⟩
  · exact dig_lt4 _ _ (by omega) h (by omega)
  · rw [h1, ltI_app, ltI_cons]
    exact dig_lt _ _ (by omega) h (by omega)
  · rw [h1, h2, ltI_app, ltI_cons, ltI_app, ltI_cons]
    exact dig_lt _ _ (by omega) h (by omega)
  · rw [h1, h2, h3, ltI_app, ltI_cons, ltI_app, ltI_cons, ltI_app, ltI_cons]
    exact dig_lt _ _ (by omega) h (by omega)
  · rw [h1, h2, h3, h4, ltI_app, ltI_cons, ltI_app, ltI_cons, ltI_app, ltI_cons, ltI_app, ltI_cons]
    exact dig_lt _ _ (by omega) h (by omega)
  · rw [h1, h2, h3, h4, h5, ltI_app, ltI_cons, ltI_app, ltI_cons, ltI_app, ltI_cons, ltI_app, ltI_cons, ltI_app, ltI_cons]
    exact dig_lt _ _ (by omega) h (by omega)
theorem secs_txt {a b : Mom} (ha : a.ok) (hb : b.ok) : secs a < secs b ↔ ltI (txt a) (txt b) := by
  constructor
  · intro h
    rcases lex_tri a b with g | rfl | g
    · exact lex_txt ha hb g
    · omega
    · have := lex_secs hb ha g
      omega
  · intro h
    rcases lex_tri a b with g | rfl | g
    · exact lex_secs ha hb g
    · exact absurd h (ltI_irr _)
    · exact absurd h (ltI_asym (lex_txt hb ha g))
theorem txt_less {a b : Mom} (ha : a.ok) (hb : b.ok) : Op.bytesLess (strOf (txt a)).toList (strOf (txt b)).toList = decide (secs a < secs b) := by
  rw [Bool.eq_iff_iff, decide_eq_true_eq, str_less (txt_by a) (txt_by b), secs_txt ha hb]
theorem txt_inj {a b : Mom} (ha : a.ok) (hb : b.ok) : strOf (txt a) = strOf (txt b) ↔ secs a = secs b := by
  constructor
  · intro h
    have h := str_inj (txt_by a) (txt_by b) h
    rcases lex_tri a b with g | rfl | g
    · have := lex_txt ha hb g
      rw [h] at this
      exact absurd this (ltI_irr _)
    · rfl
    · have := lex_txt hb ha g
      rw [h] at this
      exact absurd this (ltI_irr _)
  · intro h
    rw [secs_inj ha hb h]
/-- A moment's text is read as it. -/
theorem bt_txt (t : Mom) (i : Nat) (h : i < 20) : bt (strOf (txt t)) i = (txt t).getD i 0 := bt_str (txt_by t) i (by rw [txt_length]; exact h)
end Go.Abs.S
namespace Go.Abs.S
open Go.Proofs
open Go.Abs.H
set_option linter.unusedVariables false
set_option linter.unusedSimpArgs false
set_option maxRecDepth 100000
set_option maxHeartbeats 4000000
theorem c48_d (n : Nat) : 48 ≤ c48 n ∧ c48 n ≤ 57 := by
  unfold c48
  omega
theorem two_c48 {x : Int} (h0 : 0 ≤ x) (h1 : x < 100) : (c48 (x.toNat / 10) - 48) * 10 + (c48 x.toNat - 48) = x := by
  unfold c48
  omega
theorem four_c48 {x : Int} (h0 : 0 ≤ x) (h1 : x < 10000) : (((c48 (x.toNat / 1000) - 48) * 10 + (c48 (x.toNat / 100) - 48)) * 10 + (c48 (x.toNat / 10) - 48)) * 10 + (c48 x.toNat - 48) = x := by
  unfold c48
  omega
/-- Bytes that begin as a moment's text does. -/
structure Begins (s : ByteArray) (t : Mom) : Prop where
  b0 : bt s 0 = c48 (t.x.y.toNat / 1000)
  b1 : bt s 1 = c48 (t.x.y.toNat / 100)
  b2 : bt s 2 = c48 (t.x.y.toNat / 10)
  b3 : bt s 3 = c48 t.x.y.toNat
  b4 : bt s 4 = 45
  b5 : bt s 5 = c48 (t.x.m.toNat / 10)
  b6 : bt s 6 = c48 t.x.m.toNat
  b7 : bt s 7 = 45
  b8 : bt s 8 = c48 (t.x.d.toNat / 10)
  b9 : bt s 9 = c48 t.x.d.toNat
  b10 : bt s 10 = 84
  b11 : bt s 11 = c48 (t.h.toNat / 10)
  b12 : bt s 12 = c48 t.h.toNat
  b13 : bt s 13 = 58
  b14 : bt s 14 = c48 (t.i.toNat / 10)
  b15 : bt s 15 = c48 t.i.toNat
  b16 : bt s 16 = 58
  b17 : bt s 17 = c48 (t.s.toNat / 10)
  b18 : bt s 18 = c48 t.s.toNat
theorem Begins.d19 {s : ByteArray} {t : Mom} (b : Begins s t) : D19 s := by
  unfold D19 dg
  rw [b.b0, b.b1, b.b2, b.b3, b.b4, b.b5, b.b6, b.b7, b.b8, b.b9, b.b10, b.b11, b.b12, b.b13, b.b14, b.b15, b.b16, b.b17, b.b18]
  exact ⟨⟨c48_d _, c48_d _, c48_d _, c48_d _⟩, rfl, ⟨c48_d _, c48_d _⟩, rfl, ⟨c48_d _, c48_d _⟩, rfl, ⟨c48_d _, c48_d _⟩, rfl, ⟨c48_d _, c48_d _⟩, rfl, ⟨c48_d _, c48_d _⟩⟩
theorem Begins.mom {s : ByteArray} {t : Mom} (b : Begins s t) (ht : t.ok) : momS s = t := by
  have ha := ht.1.all
  have hh := ht.2
  unfold momS n4 n2
  simp only [Nat.zero_add, Nat.reduceAdd]
  rw [b.b0, b.b1, b.b2, b.b3, b.b5, b.b6, b.b8, b.b9, b.b11, b.b12, b.b14, b.b15, b.b17, b.b18]
  rw [four_c48 (x := t.x.y) (by omega) (by omega), two_c48 (x := t.x.m) (by omega) (by omega), two_c48 (x := t.x.d) (by omega) (by omega), two_c48 (x := t.h) (by omega) (by omega), two_c48 (x := t.i) (by omega) (by omega), two_c48 (x := t.s) (by omega) (by omega)]
theorem begins_of {l : List Int} (hl : By0 l) (t : Mom) (r : List Int) (h : l = (txt t).take 19 ++ r) : Begins (strOf l) t := by
  have hlen : 19 ≤ l.length := by rw [h, List.length_append, List.length_take, txt_length]; omega
  have e : ∀ i, i < 19 → bt (strOf l) i = (txt t).getD i 0 := fun i hi => by
    rw [bt_str hl i (by omega), h]
    simp only [List.getD_eq_getElem?_getD]
    rw [List.getElem?_append_left (by rw [List.length_take, txt_length]; omega), List.getElem?_take, if_pos hi]
  have f : ∀ i v, i < 19 → (txt t).getD i 0 = v → bt (strOf l) i = v := fun i v hi hv => by rw [e i hi, hv]
  have g := txt_list t
  exact ⟨f 0 _ (by omega) (by rw [g]; rfl), f 1 _ (by omega) (by rw [g]; rfl), f 2 _ (by omega) (by rw [g]; rfl), f 3 _ (by omega) (by rw [g]; rfl), f 4 _ (by omega) (by rw [g]; rfl), f 5 _ (by omega) (by rw [g]; rfl), f 6 _ (by omega) (by rw [g]; rfl), f 7 _ (by omega) (by rw [g]; rfl), f 8 _ (by omega) (by rw [g]; rfl), f 9 _ (by omega) (by rw [g]; rfl), f 10 _ (by omega) (by rw [g]; rfl), f 11 _ (by omega) (by rw [g]; rfl), f 12 _ (by omega) (by rw [g]; rfl), f 13 _ (by omega) (by rw [g]; rfl), f 14 _ (by omega) (by rw [g]; rfl), f 15 _ (by omega) (by rw [g]; rfl), f 16 _ (by omega) (by rw [g]; rfl), f 17 _ (by omega) (by rw [g]; rfl), f 18 _ (by omega) (by rw [g]; rfl)⟩
theorem read_txt (t : Mom) (ht : t.ok) : readP (strOf (txt t)) = (secs t, 0) := by
  have hb : Begins (strOf (txt t)) t := begins_of (txt_by t) t [90] (by rw [txt_list]; rfl)
  have hs : (strOf (txt t)).size = 20 := by rw [str_size, txt_length]
  have h19 : bt (strOf (txt t)) 19 = 90 := by rw [bt_txt t 19 (by omega), txt_list]; rfl
  have hF : Formed (strOf (txt t)) := ⟨hb.d19, .inl ⟨hs, h19⟩⟩
  have hsh : shf (strOf (txt t)) = 0 := by unfold shf; rw [if_pos hs]
  have hi := secs_in ht
  unfold readP
  rw [if_neg (not_not_intro hF), if_neg (by omega), hb.mom ht, if_neg (not_not_intro ht), hsh, Int.add_zero, if_neg (by omega)]
/-- A text of twenty bytes that tells a time is that time's. -/
theorem txt_read (s : ByteArray) (hF : Formed s) (hs : s.size = 20) (hok : (momS s).ok) : strOf (txt (momS s)) = s := by
  obtain ⟨hd, hc⟩ := hF
  have h19 : bt s 19 = 90 := by rcases hc with h | h <;> omega
  obtain ⟨⟨h0, h1, h2, h3⟩, h4, ⟨h5, h6⟩, h7, ⟨h8, h9⟩, h10, ⟨h11, h12⟩, h13, ⟨h14, h15⟩, h16, ⟨h17, h18⟩⟩ := hd
  have hl : bytesOf s = [bt s 0, bt s 1, bt s 2, bt s 3, bt s 4, bt s 5, bt s 6, bt s 7, bt s 8, bt s 9, bt s 10, bt s 11, bt s 12, bt s 13, bt s 14, bt s 15, bt s 16, bt s 17, bt s 18, bt s 19] := by
    have h1 : bytesOf s = (List.range 20).map (bt s) := by
      apply List.ext_getElem
      · rw [bytesOf_length, hs]
        simp
      · intro i g1 g2
        have := bytesOf_at s i (by rw [bytesOf_length] at g1; exact g1)
        rw [List.getD_eq_getElem?_getD, List.getElem?_eq_getElem g1, Option.getD_some] at this
        rw [this]
        simp
    rw [h1]
    rfl
  have d2 : ∀ i, dg s i ∧ dg s (i + 1) → c48 ((n2 s i).toNat / 10) = bt s i ∧ c48 (n2 s i).toNat = bt s (i + 1) := fun i h => by
    unfold n2 c48
    unfold dg at h
    omega
  have d4 : c48 ((n4 s 0).toNat / 1000) = bt s 0 ∧ c48 ((n4 s 0).toNat / 100) = bt s 1 ∧ c48 ((n4 s 0).toNat / 10) = bt s 2 ∧ c48 (n4 s 0).toNat = bt s 3 := by
    unfold n4 c48
    simp only [Nat.zero_add]
    unfold dg at h0 h1 h2 h3
    generalize bt s 0 = a at *
    generalize bt s 1 = b at *
    generalize bt s 2 = c at *
    generalize bt s 3 = d at *
    obtain ⟨a, rfl⟩ : ∃ a' : Nat, a = ((48 + a' : Nat) : Int) := ⟨(a - 48).toNat, by omega⟩
    obtain ⟨b, rfl⟩ : ∃ b' : Nat, b = ((48 + b' : Nat) : Int) := ⟨(b - 48).toNat, by omega⟩
    obtain ⟨c, rfl⟩ : ∃ c' : Nat, c = ((48 + c' : Nat) : Int) := ⟨(c - 48).toNat, by omega⟩
    obtain ⟨d, rfl⟩ : ∃ d' : Nat, d = ((48 + d' : Nat) : Int) := ⟨(d - 48).toNat, by omega⟩
    obtain ⟨N, hN⟩ : ∃ N : Nat, ((((((48 + a : Nat) : Int) - 48) * 10 + (((48 + b : Nat) : Int) - 48)) * 10 + (((48 + c : Nat) : Int) - 48)) * 10 + (((48 + d : Nat) : Int) - 48)).toNat = N := ⟨_, rfl⟩
    rw [hN]
    have hN' : N = ((a * 10 + b) * 10 + c) * 10 + d := by omega
    refine ⟨by omega, by omega, by omega, by omega⟩
  have e5 := d2 5 ⟨h5, h6⟩
  have e8 := d2 8 ⟨h8, h9⟩
  have e11 := d2 11 ⟨h11, h12⟩
  have e14 := d2 14 ⟨h14, h15⟩
  have e17 := d2 17 ⟨h17, h18⟩
  have ht : txt (momS s) = bytesOf s := by
    rw [hl, txt_list]
    show [c48 ((n4 s 0).toNat / 1000), c48 ((n4 s 0).toNat / 100), c48 ((n4 s 0).toNat / 10), c48 (n4 s 0).toNat, 45, c48 ((n2 s 5).toNat / 10), c48 (n2 s 5).toNat, 45, c48 ((n2 s 8).toNat / 10), c48 (n2 s 8).toNat, 84, c48 ((n2 s 11).toNat / 10), c48 (n2 s 11).toNat, 58, c48 ((n2 s 14).toNat / 10), c48 (n2 s 14).toNat, 58, c48 ((n2 s 17).toNat / 10), c48 (n2 s 17).toNat, 90] = _
    rw [d4.1, d4.2.1, d4.2.2.1, d4.2.2.2, e5.1, e5.2, e8.1, e8.2, e11.1, e11.2, e14.1, e14.2, e17.1, e17.2, h4, h7, h10, h13, h16, h19]
  rw [ht]
  exact str_bytes s
end Go.Abs.S
namespace Go.Abs.S
attribute [local go_sem] lguard aopO aop nxL aenv toAV tput aLoad aStore vcells aBin aNilI aUn aAlloc aBox aBuild aBSlice afill aConv isIntT aappZ aCap aArr aMM aMake aSlice bnd3 bnd aFldAddr aFld aIdxAddr aIdx aExt aLen aCopy aEq0 bAV aUb aapp aappQ agh acont List.getD_cons_zero List.getD_cons_succ List.set_cons_zero List.set_cons_succ List.getElem?_cons_zero List.getElem?_cons_succ List.length_cons List.length_nil List.map_cons List.map_nil ints_length if_true if_false Bool.false_eq_true true_and and_true eq_self ne_eq not_false_eq_true not_true_eq_false beq_self_eq_true Nat.zero_add Nat.add_zero Nat.mul_one Nat.zero_mul Int.toNat_natCast List.toList_toArray List.all_cons List.all_nil AV.one Value.oneCell' Bool.and_true Bool.true_and forall_const true_implies false_implies implies_true Option.map_some Option.map_none Option.isSome_some Option.isSome_none imp_self rdP_flat rdP_row splice_one ints_set ints_get List.append_nil List.cons_append List.nil_append List.getElem?_toArray List.drop_zero ints_drop ints_take List.take_of_length_le splice_all ints_one Option.some.injEq Option.getD_some List.length_replicate zArr List.map_replicate rep_ints splice_intsR List.length_set List.length_append List.flatten_replicate_singleton rep_slice rep_string rep_bool rep_iface List.replicate_zero if_pos if_neg List.mapM_cons List.mapM_nil Option.pure_def Option.bind_eq_bind Option.bind_some Bool.true_eq_false Bool.not_false Bool.not_true get_concat set_concat
open Go.Proofs
open Go.Abs.H
open Go.Proofs.YtgmchiadphdlhaaDoor.Chk
set_option linter.unusedVariables false
set_option linter.unusedSimpArgs false
set_option maxRecDepth 100000
set_option maxHeartbeats 4000000
theorem pick_mem (ss : List ByteArray) (d : Nat) (hd : d < 2) (pre : List Nat) : ∀ s ∈ pick ss d pre, s ∈ ss := by
  intro s hs
  simp only [pick, List.mem_filterMap] at hs
  obtain ⟨k, _, hk⟩ := hs
  split at hk
  · simp only [Option.some.injEq] at hk
    rw [← hk, List.getD_eq_getElem?_getD, List.getElem?_eq_getElem (by omega)]
    exact List.getElem_mem _
  · exact absurd hk (by simp)
theorem nms_mem (ss : List ByteArray) : ∀ s ∈ nms ss, s ∈ ss := pick_mem ss 0 (by omega) _
theorem txs_mem (ss : List ByteArray) : ∀ s ∈ txs ss, s ∈ ss := pick_mem ss 1 (by omega) _
theorem txs_len (ss : List ByteArray) : (txs ss).length = (nms ss).length := pick_len ss 1 0 _

/-- A name's text, of a page of texts. -/
def txP (N X : List ByteArray) (name : ByteArray) : ByteArray × Bool := if idxK N name 0 < 0 then (⟨#[]⟩, false) else (X.getD (idxK N name 0).toNat ⟨#[]⟩, true)
theorem textT_p (N X : List ByteArray) (hX : X.length = N.length) (hl : N.length ≤ 1000) (now : Int) (name : ByteArray) :
    PCall Tryd.prog glob 29 [claA (.vsl N.length (strs N) none) (.vsl N.length (vals X) none) now, stA name] (.tup [stA (txP N X name).1, .v (.bool (txP N X name).2)]) := by
  have g := get_p N X hX hl name
  unfold getA at g
  unfold txP
  split at g
  · rename_i h
    rw [if_pos h]
    exact text_p _ _ (NR.vsl (NR.strs _)) (NR.vsl (NR.valsX _)) now name 0 ⟨#[]⟩ nlA nlA (.inl rfl) (.inl rfl) false g
  · rename_i h
    rw [if_neg h]
    exact text_p _ _ (NR.vsl (NR.strs _)) (NR.vsl (NR.valsX _)) now name 4 (X.getD (idxK N name 0).toNat ⟨#[]⟩) nlA nlA (.inl rfl) (.inl rfl) true g
theorem txP_size (N X : List ByteArray) (hx : ∀ s ∈ X, s.size ≤ 9223372036854775807) (name : ByteArray) : (txP N X name).1.size ≤ 9223372036854775807 := by
  unfold txP
  split
  · exact Nat.zero_le _
  · simp only
    by_cases h : (idxK N name 0).toNat < X.length
    · rw [List.getD_eq_getElem?_getD, List.getElem?_eq_getElem h]
      exact hx _ (List.getElem_mem h)
    · rw [List.getD_eq_getElem?_getD, List.getElem?_eq_none (by omega)]
      exact Nat.zero_le _
/-- What rules say of a page of texts. -/
def chkPg (N X : List ByteArray) (now : Int) (l : List Rule3) : Int := if goodPg N X = 0 then chkAll (txP N X) now l else 2
theorem CheckT_p (N X : List ByteArray) (hX : X.length = N.length) (hl : N.length ≤ 1000) (hz : ∀ s ∈ N, s.size ≤ 9223372036854775807) (hx : ∀ s ∈ X, s.size ≤ 9223372036854775807) (now : Int) (l : List Rule3) (hll : l.length ≤ 1000) (hr : ∀ r ∈ l, r.1 ≠ 1 → r.1 ≠ 2 → (txP N X r.2.1).1.size ≤ 1000000) (c : Option Nat) :
    PCall Tryd.prog glob 8 [pageA N X, ivC now, .vsl l.length (rulesA l) c] (ivC (chkPg N X now l)) := by
  have g := Good_p N X hX hl hz hx
  unfold chkPg
  by_cases h : goodPg N X = 0
  · rw [if_pos h]
    rw [h] at g
    exact Check_p _ _ (NR.strs _) _ _ (NR.valsX _) now g (txP N X) (textT_p N X hX hl now) l hll hr c
  · rw [if_neg h]
    exact Check_bad _ _ _ _ (NR.strs _) _ _ (NR.valsX _) now _ g (.inr h) l c
/-- The texts that claims are made of. -/
def mk8 (i a x y : ByteArray) : List ByteArray := [issB, i, audB, a, nbfB, x, expB, y]
abbrev zeroA : AV := .agg [ivC 0, stA ⟨#[]⟩, nlA, nlA]
/-- A page and 0, or none and what is wrong. -/
def madeA (ss : List ByteArray) : AV := if goodPg (nms ss) (txs ss) = 0 then .tup [pageA (nms ss) (txs ss), ivC 0] else .tup [zeroA, ivC (goodPg (nms ss) (txs ss))]
theorem NR.zeroA : NR zeroA := NR.agg (by intro c hc; simp only [List.mem_cons, List.not_mem_nil, or_false] at hc; rcases hc with rfl | rfl | rfl | rfl <;> exact NR.v _)
theorem NR.t2n {a b : AV} (ha : NR a) (hb : NR b) : NR (.tup [a, b]) := NR.tup (by intro c hc; simp only [List.mem_cons, List.not_mem_nil, or_false] at hc; rcases hc with rfl | rfl; exact ha; exact hb)
theorem NR.madeA (ss : List ByteArray) : NR (madeA ss) := by
  unfold Go.Abs.S.madeA
  split
  · exact NR.t2n (NR.pageA _ _) (NR.v _)
  · exact NR.t2n NR.zeroA (NR.v _)
theorem make_nr (i a : ByteArray) (n m : Int) (more : List ByteArray) (c : Option Nat) : ∀ x ∈ [stA i, stA a, ivC n, ivC m, .vsl more.length (strs more) c], NR x := by
  intro x hx
  simp only [List.mem_cons, List.not_mem_nil, or_false] at hx
  rcases hx with rfl | rfl | rfl | rfl | rfl
  · exact NR.v _
  · exact NR.v _
  · exact NR.v _
  · exact NR.v _
  · exact NR.vsl (NR.strs _)
theorem Make_bad1 (i a : ByteArray) (n m : Int) (h : ¬ (tFirst ≤ n ∧ n ≤ tLast)) (more : List ByteArray) (c : Option Nat) :
    PCall Tryd.prog glob 12 [stA i, stA a, ivC n, ivC m, .vsl more.length (strs more) c] (.tup [zeroA, ivC 12]) := by
  refine PCall.of ctx.nr (make_nr i a n m more c) (NR.t2n NR.zeroA (NR.v _)) ?_
  refine lcall12 (by simp) 0 (Nat.le_refl _) ?_
  unfold lc12
  simp only [List.length_cons, List.length_nil, Nat.reduceAdd, Nat.reduceSub, List.replicate_succ, List.replicate_zero, List.cons_append, List.nil_append]
  have tb := Text_bad n h
  refine gc1 tt (an tb.go tt) tt tt ⟨?_⟩
  refine And.intro (by simp) ?_
  simp (disch := first | exact dch | fail) only [go_sem, Nat.reduceAdd, Nat.reduceSub, reduceIte, Nat.reduceEqDiff, Int.reduceToNat, Int.reduceBEq, Int.reduceBNe, aret, aretL, aret1, aenv]
  (repeat (with_reducible refine And.intro acl ?_))
  exact end0 (NR.t2n NR.zeroA (NR.v _)) rfl
theorem Make_bad2 (i a : ByteArray) (t : Mom) (ht : t.ok) (m : Int) (h : ¬ (tFirst ≤ m ∧ m ≤ tLast)) (more : List ByteArray) (c : Option Nat) :
    PCall Tryd.prog glob 12 [stA i, stA a, ivC (secs t), ivC m, .vsl more.length (strs more) c] (.tup [zeroA, ivC 12]) := by
  refine PCall.of ctx.nr (make_nr i a _ m more c) (NR.t2n NR.zeroA (NR.v _)) ?_
  refine lcall12 (by simp) 0 (Nat.le_refl _) ?_
  unfold lc12
  simp only [List.length_cons, List.length_nil, Nat.reduceAdd, Nat.reduceSub, List.replicate_succ, List.replicate_zero, List.cons_append, List.nil_append]
  have tb := Text_bad m h
  have tp := Text_p t ht
  refine gc1 tt (an tp.go (an tb.go tt)) tt tt ⟨?_⟩
  refine And.intro (by simp) ?_
  simp (disch := first | exact dch | fail) only [go_sem, Nat.reduceAdd, Nat.reduceSub, reduceIte, Nat.reduceEqDiff, Int.reduceToNat, Int.reduceBEq, Int.reduceBNe, aret, aretL, aret1, aenv]
  (repeat (with_reducible refine And.intro acl ?_))
  exact end0 (NR.t2n NR.zeroA (NR.v _)) rfl
theorem Make_p (i a : ByteArray) (t u : Mom) (ht : t.ok) (hu : u.ok) (more : List ByteArray) (c : Option Nat) (hm : more.length ≤ 100) (hi : i.size ≤ 9223372036854775807) (ha : a.size ≤ 9223372036854775807) (hs : ∀ s ∈ more, s.size ≤ 9223372036854775807) :
    PCall Tryd.prog glob 12 [stA i, stA a, ivC (secs t), ivC (secs u), .vsl more.length (strs more) c] (madeA (mk8 i a (strOf (txt t)) (strOf (txt u)) ++ more)) := by
  refine PCall.of ctx.nr (make_nr i a _ _ more c) (NR.madeA _) ?_
  have tp := Text_p t ht
  have up := Text_p u hu
  have zt : (strOf (txt t)).size = 20 := by rw [str_size, txt_length]
  have zu : (strOf (txt u)).size = 20 := by rw [str_size, txt_length]
  refine lcall12 (by simp) 0 (Nat.le_refl _) ?_
  unfold lc12
  simp only [List.length_cons, List.length_nil, Nat.reduceAdd, Nat.reduceSub, List.replicate_succ, List.replicate_zero, List.cons_append, List.nil_append]
  obtain ⟨x, hx⟩ : ∃ x, strOf (txt t) = x := ⟨_, rfl⟩
  obtain ⟨y, hy⟩ : ∃ y, strOf (txt u) = y := ⟨_, rfl⟩
  rw [hx] at tp zt ⊢
  rw [hy] at up zu ⊢
  obtain ⟨n, hn⟩ : ∃ n, secs t = n := ⟨_, rfl⟩
  obtain ⟨m, hm'⟩ : ∃ n, secs u = n := ⟨_, rfl⟩
  rw [hn] at tp ⊢
  rw [hm'] at up ⊢
  have hall : ∀ s ∈ mk8 i a x y ++ more, s.size ≤ 9223372036854775807 := by
    intro s h
    rw [List.mem_append] at h
    rcases h with h | h
    · simp only [mk8, List.mem_cons, List.not_mem_nil, or_false] at h
      rcases h with rfl | rfl | rfl | rfl | rfl | rfl | rfl | rfl
      all_goals first | assumption | omega | decide
    · exact hs s h
  have hT : (mk8 i a x y ++ more).length = 8 + more.length := by rw [List.length_append]; rfl
  have cc := concatS_p [.vsl 8 (strs (mk8 i a x y)) (some 8), .vsl more.length (strs more) c] (some 2) [mk8 i a x y, more] (RwsS.cons rfl (RwsS.cons rfl RwsS.nil)) (mk8 i a x y ++ more) (by simp) (by omega) (by omega) (show 2 ≤ 1000000 by decide)
  obtain ⟨T, hT2⟩ : ∃ T, mk8 i a x y ++ more = T := ⟨_, rfl⟩
  rw [hT2] at cc hT hall ⊢
  have po := pageOf_p T none (by omega)

  have hlen : (nms T).length ≤ 1000 := by
    refine Nat.le_trans (Nat.le_trans (pick_le T 0 _) ?_) (show T.length ≤ 1000 by omega)
    rw [List.length_range]
    unfold parts
    omega
  have gp := Good_p (nms T) (txs T) (txs_len T) hlen (fun s h => hall s (nms_mem T s h)) (fun s h => hall s (txs_mem T s h))
  have hnr := NR.madeA T
  unfold madeA at hnr ⊢
  unfold pageA at po gp hnr ⊢
  unfold strs at cc
  simp only [mk8, List.map_cons, List.map_nil] at cc
  have cc : PCall Tryd.prog glob 25 [.vsl 2 [.vsl 8 [stA issB, stA i, stA audB, stA a, stA nbfB, stA x, stA expB, stA y] (some 8), .vsl more.length (strs more) c] (some 2)] (.vsl T.length (strs T) none) := cc
  obtain ⟨g, hg⟩ : ∃ g, goodPg (nms T) (txs T) = g := ⟨_, rfl⟩
  rw [hg] at gp hnr ⊢
  by_cases h0 : g = 0
  · subst h0
    rw [if_pos rfl] at hnr ⊢
    repeat (first
      | (with_reducible refine lops_step fun K hK => ?_; simp (disch := first | exact dch | fail) only [go_sem, Nat.reduceAdd, Nat.reduceSub, reduceIte, Nat.reduceEqDiff, Int.reduceToNat, Int.reduceBEq, Int.reduceBNe, List.replicate_succ, List.replicate_zero, List.flatten_cons, List.flatten_nil, List.cons_append, List.nil_append]; (try (first | (refine And.intro (fun _ => ?_) (fun h => absurd h (by decide))) | (refine And.intro (fun h => absurd h (by decide)) (fun _ => ?_)))); (repeat (with_reducible refine And.intro acl ?_)); (first | (refine hK _ _ ?_) | (refine ⟨_, rfl, hK _ _ ?_⟩) | (refine Or.inl (hK _ _ ?_)) | (refine ⟨_, _, Or.inl (tp.go _), (by first | exact ⟨[], (List.append_nil _).symm⟩ | exact ⟨_, rfl⟩), hK _ _ ?_⟩) | (refine ⟨_, _, Or.inl (tp.go _), hK _ _ ?_⟩) | (refine ⟨_, _, Or.inl (tp.go _).weakQ, hK _ _ ?_⟩) | (refine ⟨_, _, Or.inl (up.go _), (by first | exact ⟨[], (List.append_nil _).symm⟩ | exact ⟨_, rfl⟩), hK _ _ ?_⟩) | (refine ⟨_, _, Or.inl (up.go _), hK _ _ ?_⟩) | (refine ⟨_, _, Or.inl (up.go _).weakQ, hK _ _ ?_⟩) | (refine ⟨_, _, Or.inl (cc.go _), (by first | exact ⟨[], (List.append_nil _).symm⟩ | exact ⟨_, rfl⟩), hK _ _ ?_⟩) | (refine ⟨_, _, Or.inl (cc.go _), hK _ _ ?_⟩) | (refine ⟨_, _, Or.inl (cc.go _).weakQ, hK _ _ ?_⟩) | (refine ⟨_, _, Or.inl (po.go _), (by first | exact ⟨[], (List.append_nil _).symm⟩ | exact ⟨_, rfl⟩), hK _ _ ?_⟩) | (refine ⟨_, _, Or.inl (po.go _), hK _ _ ?_⟩) | (refine ⟨_, _, Or.inl (po.go _).weakQ, hK _ _ ?_⟩) | (refine ⟨_, _, Or.inl (gp.go _), (by first | exact ⟨[], (List.append_nil _).symm⟩ | exact ⟨_, rfl⟩), hK _ _ ?_⟩) | (refine ⟨_, _, Or.inl (gp.go _), hK _ _ ?_⟩) | (refine ⟨_, _, Or.inl (gp.go _).weakQ, hK _ _ ?_⟩)); clear hK K)
      | (with_reducible refine lops_nil ?_)
      | (with_reducible first | refine lavc_reg ?_ | refine lavc_seq ?_ | refine lavc_block ?_ | refine lavc_skip ?_ | refine lavc_exit ?_ | refine lavc_ret ?_ | refine lavcR_round ?_)
      | (refine lavc_cond rfl (fun _ => ?_) (fun hc => absurd hc (by decide)))
      | (refine lavc_cond rfl (fun hc => absurd hc (by decide)) (fun _ => ?_))
      | (simp only [↓reduceIte, Nat.reduceEqDiff, reduceCtorEq]))
    refine And.intro (by simp) ?_
    simp (disch := first | exact dch | fail) only [go_sem, Nat.reduceAdd, Nat.reduceSub, reduceIte, Nat.reduceEqDiff, Int.reduceToNat, Int.reduceBEq, Int.reduceBNe, aret, aretL, aret1, aenv]
    (repeat (with_reducible refine And.intro acl ?_))
    exact end0 hnr rfl
  · rw [if_neg h0] at hnr ⊢
    have d : ((g : Int) != 0) = true := by rw [bne_iff_ne, ne_eq]; omega
    repeat (first
      | (with_reducible refine lops_step fun K hK => ?_; simp (disch := first | exact dch | fail) only [go_sem, Nat.reduceAdd, Nat.reduceSub, reduceIte, Nat.reduceEqDiff, Int.reduceToNat, Int.reduceBEq, Int.reduceBNe, d, List.replicate_succ, List.replicate_zero, List.flatten_cons, List.flatten_nil, List.cons_append, List.nil_append]; (try (first | (refine And.intro (fun _ => ?_) (fun h => absurd h (by decide))) | (refine And.intro (fun h => absurd h (by decide)) (fun _ => ?_)))); (repeat (with_reducible refine And.intro acl ?_)); (first | (refine hK _ _ ?_) | (refine ⟨_, rfl, hK _ _ ?_⟩) | (refine Or.inl (hK _ _ ?_)) | (refine ⟨_, _, Or.inl (tp.go _), (by first | exact ⟨[], (List.append_nil _).symm⟩ | exact ⟨_, rfl⟩), hK _ _ ?_⟩) | (refine ⟨_, _, Or.inl (tp.go _), hK _ _ ?_⟩) | (refine ⟨_, _, Or.inl (tp.go _).weakQ, hK _ _ ?_⟩) | (refine ⟨_, _, Or.inl (up.go _), (by first | exact ⟨[], (List.append_nil _).symm⟩ | exact ⟨_, rfl⟩), hK _ _ ?_⟩) | (refine ⟨_, _, Or.inl (up.go _), hK _ _ ?_⟩) | (refine ⟨_, _, Or.inl (up.go _).weakQ, hK _ _ ?_⟩) | (refine ⟨_, _, Or.inl (cc.go _), (by first | exact ⟨[], (List.append_nil _).symm⟩ | exact ⟨_, rfl⟩), hK _ _ ?_⟩) | (refine ⟨_, _, Or.inl (cc.go _), hK _ _ ?_⟩) | (refine ⟨_, _, Or.inl (cc.go _).weakQ, hK _ _ ?_⟩) | (refine ⟨_, _, Or.inl (po.go _), (by first | exact ⟨[], (List.append_nil _).symm⟩ | exact ⟨_, rfl⟩), hK _ _ ?_⟩) | (refine ⟨_, _, Or.inl (po.go _), hK _ _ ?_⟩) | (refine ⟨_, _, Or.inl (po.go _).weakQ, hK _ _ ?_⟩) | (refine ⟨_, _, Or.inl (gp.go _), (by first | exact ⟨[], (List.append_nil _).symm⟩ | exact ⟨_, rfl⟩), hK _ _ ?_⟩) | (refine ⟨_, _, Or.inl (gp.go _), hK _ _ ?_⟩) | (refine ⟨_, _, Or.inl (gp.go _).weakQ, hK _ _ ?_⟩)); clear hK K)
      | (with_reducible refine lops_nil ?_)
      | (with_reducible first | refine lavc_reg ?_ | refine lavc_seq ?_ | refine lavc_block ?_ | refine lavc_skip ?_ | refine lavc_exit ?_ | refine lavc_ret ?_ | refine lavcR_round ?_)
      | (refine lavc_cond rfl (fun _ => ?_) (fun hc => absurd hc (by decide)))
      | (refine lavc_cond rfl (fun hc => absurd hc (by decide)) (fun _ => ?_))
      | (simp only [↓reduceIte, Nat.reduceEqDiff, reduceCtorEq]))
    refine And.intro (by simp) ?_
    simp (disch := first | exact dch | fail) only [go_sem, Nat.reduceAdd, Nat.reduceSub, reduceIte, Nat.reduceEqDiff, Int.reduceToNat, Int.reduceBEq, Int.reduceBNe, aret, aretL, aret1, aenv]
    (repeat (with_reducible refine And.intro acl ?_))
    exact end0 hnr rfl
end Go.Abs.S
namespace Go.Abs.S
attribute [local go_sem] lguard aopO aop nxL aenv toAV tput aLoad aStore vcells aBin aNilI aUn aAlloc aBox aBuild aBSlice afill aConv isIntT aappZ aCap aArr aMM aMake aSlice bnd3 bnd aFldAddr aFld aIdxAddr aIdx aExt aLen aCopy aEq0 bAV aUb aapp aappQ agh acont List.getD_cons_zero List.getD_cons_succ List.set_cons_zero List.set_cons_succ List.getElem?_cons_zero List.getElem?_cons_succ List.length_cons List.length_nil List.map_cons List.map_nil ints_length if_true if_false Bool.false_eq_true true_and and_true eq_self ne_eq not_false_eq_true not_true_eq_false beq_self_eq_true Nat.zero_add Nat.add_zero Nat.mul_one Nat.zero_mul Int.toNat_natCast List.toList_toArray List.all_cons List.all_nil AV.one Value.oneCell' Bool.and_true Bool.true_and forall_const true_implies false_implies implies_true Option.map_some Option.map_none Option.isSome_some Option.isSome_none imp_self rdP_flat rdP_row splice_one ints_set ints_get List.append_nil List.cons_append List.nil_append List.getElem?_toArray List.drop_zero ints_drop ints_take List.take_of_length_le splice_all ints_one Option.some.injEq Option.getD_some List.length_replicate zArr List.map_replicate rep_ints splice_intsR List.length_set List.length_append List.flatten_replicate_singleton rep_slice rep_string rep_bool rep_iface List.replicate_zero if_pos if_neg List.mapM_cons List.mapM_nil Option.pure_def Option.bind_eq_bind Option.bind_some Bool.true_eq_false Bool.not_false Bool.not_true get_concat set_concat
open Go.Proofs
open Go.Abs.H
open Go.Proofs.YtgmchiadphdlhaaDoor.Chk
set_option linter.unusedVariables false
set_option linter.unusedSimpArgs false
set_option maxRecDepth 100000
set_option maxHeartbeats 4000000
def t0 : Mom := ⟨⟨1970, 1, 1⟩, 0, 0, 0⟩
def t5 : Mom := ⟨⟨1970, 1, 1⟩, 0, 0, 5⟩
theorem t0_ok : t0.ok := by unfold Mom.ok Date.ok; decide
theorem t5_ok : t5.ok := by unfold Mom.ok Date.ok; decide
theorem t0_secs : secs t0 = 0 := by decide
theorem t5_secs : secs t5 = 5 := by decide
abbrev iB : ByteArray := ⟨#[105]⟩
abbrev aB : ByteArray := ⟨#[97]⟩
theorem ex_good : goodPg (nms (mk8 iB aB (strOf (txt t0)) (strOf (txt t5)) ++ [])) (txs (mk8 iB aB (strOf (txt t0)) (strOf (txt t5)) ++ [])) = 0 := by decide +kernel
theorem nms8 (a b c d e f g h : ByteArray) : nms [a, b, c, d, e, f, g, h] = [a, c, e, g] := by
  have hp : parts 8 = 4 := by decide
  unfold nms
  rw [show [a, b, c, d, e, f, g, h].length = 8 from rfl, hp]
  rfl
theorem txs8 (a b c d e f g h : ByteArray) : txs [a, b, c, d, e, f, g, h] = [b, d, f, h] := by
  have hp : parts 8 = 4 := by decide
  unfold txs
  rw [show [a, b, c, d, e, f, g, h].length = 8 from rfl, hp]
  rfl
theorem page2 (a b : ByteArray) : pageA (nms [a, b]) (txs [a, b]) = .agg [ivC 6, stA ⟨#[]⟩, .vsl 1 [stA a] none, .vsl 1 [ivC 4, stA b, nlA, nlA] none] := by
  have hp : parts 2 = 1 := by decide
  unfold nms txs
  rw [show [a, b].length = 2 from rfl, hp]
  rfl
theorem chkAll_cons (tx : ByteArray → ByteArray × Bool) (now : Int) (r : Rule3) (l : List Rule3) : chkAll tx now (r :: l) = if checkP tx now r = 0 then chkAll tx now l else checkP tx now r := rfl
theorem chk3 (tx : ByteArray → ByteArray × Bool) (now : Int) (name want s : ByteArray) (n : Int) (h : tx name = (s, true)) (hr : readP s = (n, 0)) : checkP tx now (3, name, want) = if now < n then 13 else 0 := by
  unfold checkP wrongP
  rw [h]
  simp only
  rw [hr]
  by_cases hn : now < n
  · simp [hn]
  · simp [hn]
theorem chk4 (tx : ByteArray → ByteArray × Bool) (now : Int) (name want s : ByteArray) (n : Int) (h : tx name = (s, true)) (hr : readP s = (n, 0)) : checkP tx now (4, name, want) = if n ≤ now then 14 else 0 := by
  unfold checkP wrongP
  rw [h]
  simp only
  rw [hr]
  by_cases hn : n ≤ now
  · simp [hn]
  · simp [hn]
theorem chk1 (tx : ByteArray → ByteArray × Bool) (now : Int) (name want s : ByteArray) (h : tx name = (s, true)) : checkP tx now (1, name, want) = if s = want then 0 else 15 := by
  unfold checkP wrongP
  rw [h]
  simp
theorem ex_chk : chkPg (nms (mk8 iB aB (strOf (txt t0)) (strOf (txt t5)) ++ [])) (txs (mk8 iB aB (strOf (txt t0)) (strOf (txt t5)) ++ [])) 5 (usualP iB aB) = 14 := by
  unfold chkPg
  rw [if_pos ex_good]
  have r0 := read_txt t0 t0_ok
  have r5 := read_txt t5 t5_ok
  rw [t0_secs] at r0
  rw [t5_secs] at r5
  obtain ⟨A, hA⟩ : ∃ A, strOf (txt t0) = A := ⟨_, rfl⟩
  obtain ⟨B, hB⟩ : ∃ A, strOf (txt t5) = A := ⟨_, rfl⟩
  rw [hA] at r0 ⊢
  rw [hB] at r5 ⊢
  have eN := nms8 issB iB audB aB nbfB A expB B
  have eX := txs8 issB iB audB aB nbfB A expB B
  rw [show mk8 iB aB A B ++ [] = [issB, iB, audB, aB, nbfB, A, expB, B] from rfl]
  rw [eN, eX]
  have i1 : idxK [issB, audB, nbfB, expB] issB 0 = 0 := by decide
  have i2 : idxK [issB, audB, nbfB, expB] audB 0 = 1 := by decide
  have i3 : idxK [issB, audB, nbfB, expB] nbfB 0 = 2 := by decide
  have i4 : idxK [issB, audB, nbfB, expB] expB 0 = 3 := by decide
  have x1 : txP [issB, audB, nbfB, expB] [iB, aB, A, B] issB = (iB, true) := by unfold txP; rw [i1]; rfl
  have x2 : txP [issB, audB, nbfB, expB] [iB, aB, A, B] audB = (aB, true) := by unfold txP; rw [i2]; rfl
  have x3 : txP [issB, audB, nbfB, expB] [iB, aB, A, B] nbfB = (A, true) := by unfold txP; rw [i3]; rfl
  have x4 : txP [issB, audB, nbfB, expB] [iB, aB, A, B] expB = (B, true) := by unfold txP; rw [i4]; rfl
  unfold usualP
  rw [chkAll_cons, chk1 _ _ _ _ _ x1, if_pos rfl, if_pos rfl, chkAll_cons, chk1 _ _ _ _ _ x2, if_pos rfl, if_pos rfl, chkAll_cons, chk3 _ _ _ _ _ _ x3 r0, if_neg (show ¬ (5 : Int) < 0 by decide), if_pos rfl, chkAll_cons, chk4 _ _ _ _ _ _ x4 r5]
  rfl
theorem ex_small : ∀ r ∈ usualP iB aB, r.1 ≠ 1 → r.1 ≠ 2 → (txP (nms (mk8 iB aB (strOf (txt t0)) (strOf (txt t5)) ++ [])) (txs (mk8 iB aB (strOf (txt t0)) (strOf (txt t5)) ++ [])) r.2.1).1.size ≤ 1000000 := by decide +kernel
theorem small1 (k : Int) (name A : ByteArray) (now : Int) (zt : A.size = 20) : ∀ r ∈ [((k, name, ⟨#[]⟩) : Rule3)], r.1 ≠ 1 → r.1 ≠ 2 → (txP [name] [A] r.2.1).1.size ≤ 1000000 := by
  intro r hr _ _
  rw [List.mem_singleton] at hr
  subst hr
  have hi : idxK [name] name 0 = 0 := if_pos rfl
  have hx : txP [name] [A] name = (A, true) := by
    unfold txP
    rw [hi]
    rfl
  rw [hx]
  show A.size ≤ 1000000
  omega
theorem awake_p : PCall Tryd.prog glob 6 [] (.v (.bool true)) := by
  refine PCall.of ctx.nr nrs (NR.v _) ?_
  refine lcall6 (by simp) 0 (Nat.le_refl _) ?_
  unfold lc6
  simp only [List.length_cons, List.length_nil, Nat.reduceAdd, Nat.reduceSub, List.replicate_succ, List.replicate_zero, List.cons_append, List.nil_append]
  have mp := (Make_p iB aB t0 t5 t0_ok t5_ok [] none (by decide) (by decide) (by decide) (fun _ h => absurd h List.not_mem_nil)).les (args := [stA iB, stA aB, ivC (secs t0), ivC (secs t5), .v (.slice none 0 0)]) ⟨AvLe.refl _, AvLe.refl _, AvLe.refl _, AvLe.refl _, AvLe.nil, trivial⟩
  rw [t0_secs, t5_secs] at mp
  unfold madeA at mp
  rw [if_pos ex_good] at mp
  have hsz : ∀ s ∈ mk8 iB aB (strOf (txt t0)) (strOf (txt t5)) ++ [], s.size ≤ 9223372036854775807 := by decide +kernel
  have hln : (nms (mk8 iB aB (strOf (txt t0)) (strOf (txt t5)) ++ [])).length ≤ 1000 := by decide +kernel
  have cp := CheckT_p (nms (mk8 iB aB (strOf (txt t0)) (strOf (txt t5)) ++ [])) (txs (mk8 iB aB (strOf (txt t0)) (strOf (txt t5)) ++ [])) (txs_len _) hln (fun s h => hsz s (nms_mem _ s h)) (fun s h => hsz s (txs_mem _ s h)) 5 (usualP iB aB) (by decide) ex_small (some 4)
  rw [ex_chk] at cp
  have up := Usual_p iB aB
  obtain ⟨N, hN⟩ : ∃ N, nms (mk8 iB aB (strOf (txt t0)) (strOf (txt t5)) ++ []) = N := ⟨_, rfl⟩
  obtain ⟨X, hX⟩ : ∃ N, txs (mk8 iB aB (strOf (txt t0)) (strOf (txt t5)) ++ []) = N := ⟨_, rfl⟩
  rw [hN, hX] at mp cp
  unfold pageA at mp cp
  have cp : PCall Tryd.prog glob 8 [.agg [ivC 6, stA ⟨#[]⟩, .vsl N.length (strs N) none, .vsl N.length (vals X) none], ivC 5, .vsl 4 (rulesA (usualP iB aB)) (some 4)] (ivC 14) := cp
  refine gc1 tt (an mp.go (an up.go (an cp.go tt))) tt tt ⟨?_⟩
  refine And.intro (by simp) ?_
  simp (disch := first | exact dch | fail) only [go_sem, Nat.reduceAdd, Nat.reduceSub, reduceIte, Nat.reduceEqDiff, Int.reduceToNat, Int.reduceBEq, Int.reduceBNe, aret, aretL, aret1, aenv]
  (repeat (with_reducible refine And.intro acl ?_))
  exact end0 (NR.v _) rfl
theorem times_p (n now : Int) (name : ByteArray) (hz : name.size ≤ 9223372036854775807) : PCall Tryd.prog glob 4 [ivC n, ivC now, stA name] (.v (.bool true)) := by
  refine PCall.of ctx.nr nrs (NR.v _) ?_
  refine lcall4 (by simp) 0 (Nat.le_refl _) ?_
  unfold lc4
  simp only [List.length_cons, List.length_nil, Nat.reduceAdd, Nat.reduceSub, List.replicate_succ, List.replicate_zero, List.cons_append, List.nil_append]
  have aw := awake_p
  by_cases g60 : 60 < name.size
  · have d1 : decide ((name.size : Int) > 60) = true := by rw [decide_eq_true_eq]; omega
    refine gc1 (an d1 tt) (an aw.go tt) tt tt ⟨?_⟩
    refine And.intro (by simp) ?_
    simp (disch := first | exact dch | fail) only [go_sem, Nat.reduceAdd, Nat.reduceSub, reduceIte, Nat.reduceEqDiff, Int.reduceToNat, Int.reduceBEq, Int.reduceBNe, aret, aretL, aret1, aenv]
    (repeat (with_reducible refine And.intro acl ?_))
    exact end0 (NR.v _) rfl
  have d1 : decide ((name.size : Int) > 60) = false := by rw [decide_eq_false_iff_not]; omega
  by_cases gn : ¬ (tFirst ≤ n ∧ n ≤ tLast)
  · have tb := Text_bad n gn
    have po : PCall Tryd.prog glob 10 [.vsl 2 [stA name, stA ⟨#[]⟩] (some 2)] (.agg [ivC 6, stA ⟨#[]⟩, .vsl 1 [stA name] none, .vsl 1 [ivC 4, stA ⟨#[]⟩, nlA, nlA] none]) := by
      rw [← page2]
      exact pageOf_p [name, ⟨#[]⟩] (some 2) (show 2 ≤ 1000 by decide)
    repeat (first
      | (with_reducible refine lops_step fun K hK => ?_; simp (disch := first | exact dch | fail) only [go_sem, Nat.reduceAdd, Nat.reduceSub, reduceIte, Nat.reduceEqDiff, Int.reduceToNat, Int.reduceBEq, Int.reduceBNe, d1, List.replicate_succ, List.replicate_zero, List.flatten_cons, List.flatten_nil, List.cons_append, List.nil_append]; (try (first | (refine And.intro (fun _ => ?_) (fun h => absurd h (by decide))) | (refine And.intro (fun h => absurd h (by decide)) (fun _ => ?_)))); (repeat (with_reducible refine And.intro acl ?_)); (first | (refine hK _ _ ?_) | (refine ⟨_, rfl, hK _ _ ?_⟩) | (refine Or.inl (hK _ _ ?_)) | (refine ⟨_, _, Or.inl (aw.go _), (by first | exact ⟨[], (List.append_nil _).symm⟩ | exact ⟨_, rfl⟩), hK _ _ ?_⟩) | (refine ⟨_, _, Or.inl (aw.go _), hK _ _ ?_⟩) | (refine ⟨_, _, Or.inl (aw.go _).weakQ, hK _ _ ?_⟩) | (refine ⟨_, _, Or.inl (tb.go _), (by first | exact ⟨[], (List.append_nil _).symm⟩ | exact ⟨_, rfl⟩), hK _ _ ?_⟩) | (refine ⟨_, _, Or.inl (tb.go _), hK _ _ ?_⟩) | (refine ⟨_, _, Or.inl (tb.go _).weakQ, hK _ _ ?_⟩) | (refine ⟨_, _, Or.inl (po.go _), (by first | exact ⟨[], (List.append_nil _).symm⟩ | exact ⟨_, rfl⟩), hK _ _ ?_⟩) | (refine ⟨_, _, Or.inl (po.go _), hK _ _ ?_⟩) | (refine ⟨_, _, Or.inl (po.go _).weakQ, hK _ _ ?_⟩)); clear hK K)
      | (with_reducible refine lops_nil ?_)
      | (with_reducible first | refine lavc_reg ?_ | refine lavc_seq ?_ | refine lavc_block ?_ | refine lavc_skip ?_ | refine lavc_exit ?_ | refine lavc_ret ?_ | refine lavcR_round ?_)
      | (refine lavc_cond rfl (fun _ => ?_) (fun hc => absurd hc (by decide)))
      | (refine lavc_cond rfl (fun hc => absurd hc (by decide)) (fun _ => ?_))
      | (simp only [↓reduceIte, Nat.reduceEqDiff, reduceCtorEq]))
    refine And.intro (by simp) ?_
    simp (disch := first | exact dch | fail) only [go_sem, Nat.reduceAdd, Nat.reduceSub, reduceIte, Nat.reduceEqDiff, Int.reduceToNat, Int.reduceBEq, Int.reduceBNe, aret, aretL, aret1, aenv]
    (repeat (with_reducible refine And.intro acl ?_))
    exact end0 (NR.v _) rfl
  obtain ⟨t, ht, rfl⟩ := mom_of n (Decidable.not_not.1 gn).1 (Decidable.not_not.1 gn).2
  have tp := Text_p t ht
  have rt := read_txt t ht
  have zt : (strOf (txt t)).size = 20 := by rw [str_size, txt_length]
  obtain ⟨A, hA⟩ : ∃ A, strOf (txt t) = A := ⟨_, rfl⟩
  rw [hA] at tp rt zt
  obtain ⟨N, hN⟩ : ∃ N, secs t = N := ⟨_, rfl⟩
  rw [hN] at tp rt ⊢
  have po : PCall Tryd.prog glob 10 [.vsl 2 [stA name, stA A] (some 2)] (.agg [ivC 6, stA ⟨#[]⟩, .vsl 1 [stA name] none, .vsl 1 [ivC 4, stA A, nlA, nlA] none]) := by
    rw [← page2]
    exact pageOf_p [name, A] (some 2) (show 2 ≤ 1000 by decide)
  have hz1 : ∀ s ∈ [name], s.size ≤ 9223372036854775807 := by
    intro s hs
    rw [List.mem_singleton] at hs
    rw [hs]
    omega
  have hz2 : ∀ s ∈ [A], s.size ≤ 9223372036854775807 := by
    intro s hs
    rw [List.mem_singleton] at hs
    rw [hs]
    omega
  have gp : PCall Tryd.prog glob 11 [.agg [ivC 6, stA ⟨#[]⟩, .vsl 1 [stA name] none, .vsl 1 [ivC 4, stA A, nlA, nlA] none]] (ivC (goodPg [name] [A])) := Good_p [name] [A] rfl (show 1 ≤ 1000 by decide) hz1 hz2
  have c3 : PCall Tryd.prog glob 8 [.agg [ivC 6, stA ⟨#[]⟩, .vsl 1 [stA name] none, .vsl 1 [ivC 4, stA A, nlA, nlA] none], ivC now, .vsl 1 [ivC 3, stA name, stA ⟨#[]⟩] (some 1)] (ivC (chkPg [name] [A] now [(3, name, ⟨#[]⟩)])) := CheckT_p [name] [A] rfl (show 1 ≤ 1000 by decide) hz1 hz2 now [(3, name, ⟨#[]⟩)] (show 1 ≤ 1000 by decide) (small1 3 name A now zt) (some 1)
  have c4 : PCall Tryd.prog glob 8 [.agg [ivC 6, stA ⟨#[]⟩, .vsl 1 [stA name] none, .vsl 1 [ivC 4, stA A, nlA, nlA] none], ivC now, .vsl 1 [ivC 4, stA name, stA ⟨#[]⟩] (some 1)] (ivC (chkPg [name] [A] now [(4, name, ⟨#[]⟩)])) := CheckT_p [name] [A] rfl (show 1 ≤ 1000 by decide) hz1 hz2 now [(4, name, ⟨#[]⟩)] (show 1 ≤ 1000 by decide) (small1 4 name A now zt) (some 1)
  have hx : txP [name] [A] name = (A, true) := by
    have hi : idxK [name] name 0 = 0 := if_pos rfl
    unfold txP
    rw [hi]
    rfl
  unfold chkPg at c3 c4
  obtain ⟨g, hg⟩ : ∃ g, goodPg [name] [A] = g := ⟨_, rfl⟩
  rw [hg] at gp c3 c4
  by_cases h0 : g = 0
  · subst h0
    rw [if_pos rfl] at c3 c4
    rw [chkAll_cons, chk3 _ _ _ _ _ _ hx rt] at c3
    rw [chkAll_cons, chk4 _ _ _ _ _ _ hx rt] at c4
    by_cases hn : now < N
    · have d2 : decide (now < N) = true := by rw [decide_eq_true_eq]; omega
      rw [if_pos hn, if_neg (by decide)] at c3
      rw [if_neg (show ¬ N ≤ now by omega), if_pos rfl] at c4
      have c4 : PCall Tryd.prog glob 8 [.agg [ivC 6, stA ⟨#[]⟩, .vsl 1 [stA name] none, .vsl 1 [ivC 4, stA A, nlA, nlA] none], ivC now, .vsl 1 [ivC 4, stA name, stA ⟨#[]⟩] (some 1)] (ivC 0) := c4
      repeat (first
        | (with_reducible refine lops_step fun K hK => ?_; simp (disch := first | exact dch | fail) only [go_sem, Nat.reduceAdd, Nat.reduceSub, reduceIte, Nat.reduceEqDiff, Int.reduceToNat, Int.reduceBEq, Int.reduceBNe, d1, d2, List.replicate_succ, List.replicate_zero, List.flatten_cons, List.flatten_nil, List.cons_append, List.nil_append]; (try (first | (refine And.intro (fun _ => ?_) (fun h => absurd h (by decide))) | (refine And.intro (fun h => absurd h (by decide)) (fun _ => ?_)))); (repeat (with_reducible refine And.intro acl ?_)); (first | (refine hK _ _ ?_) | (refine ⟨_, rfl, hK _ _ ?_⟩) | (refine Or.inl (hK _ _ ?_)) | (refine ⟨_, _, Or.inl (aw.go _), (by first | exact ⟨[], (List.append_nil _).symm⟩ | exact ⟨_, rfl⟩), hK _ _ ?_⟩) | (refine ⟨_, _, Or.inl (aw.go _), hK _ _ ?_⟩) | (refine ⟨_, _, Or.inl (aw.go _).weakQ, hK _ _ ?_⟩) | (refine ⟨_, _, Or.inl (tp.go _), (by first | exact ⟨[], (List.append_nil _).symm⟩ | exact ⟨_, rfl⟩), hK _ _ ?_⟩) | (refine ⟨_, _, Or.inl (tp.go _), hK _ _ ?_⟩) | (refine ⟨_, _, Or.inl (tp.go _).weakQ, hK _ _ ?_⟩) | (refine ⟨_, _, Or.inl (po.go _), (by first | exact ⟨[], (List.append_nil _).symm⟩ | exact ⟨_, rfl⟩), hK _ _ ?_⟩) | (refine ⟨_, _, Or.inl (po.go _), hK _ _ ?_⟩) | (refine ⟨_, _, Or.inl (po.go _).weakQ, hK _ _ ?_⟩) | (refine ⟨_, _, Or.inl (gp.go _), (by first | exact ⟨[], (List.append_nil _).symm⟩ | exact ⟨_, rfl⟩), hK _ _ ?_⟩) | (refine ⟨_, _, Or.inl (gp.go _), hK _ _ ?_⟩) | (refine ⟨_, _, Or.inl (gp.go _).weakQ, hK _ _ ?_⟩) | (refine ⟨_, _, Or.inl (c3.go _), (by first | exact ⟨[], (List.append_nil _).symm⟩ | exact ⟨_, rfl⟩), hK _ _ ?_⟩) | (refine ⟨_, _, Or.inl (c3.go _), hK _ _ ?_⟩) | (refine ⟨_, _, Or.inl (c3.go _).weakQ, hK _ _ ?_⟩) | (refine ⟨_, _, Or.inl (c4.go _), (by first | exact ⟨[], (List.append_nil _).symm⟩ | exact ⟨_, rfl⟩), hK _ _ ?_⟩) | (refine ⟨_, _, Or.inl (c4.go _), hK _ _ ?_⟩) | (refine ⟨_, _, Or.inl (c4.go _).weakQ, hK _ _ ?_⟩)); clear hK K)
        | (with_reducible refine lops_nil ?_)
        | (with_reducible first | refine lavc_reg ?_ | refine lavc_seq ?_ | refine lavc_block ?_ | refine lavc_skip ?_ | refine lavc_exit ?_ | refine lavc_ret ?_ | refine lavcR_round ?_)
        | (refine lavc_cond rfl (fun _ => ?_) (fun hc => absurd hc (by decide)))
        | (refine lavc_cond rfl (fun hc => absurd hc (by decide)) (fun _ => ?_))
        | (simp only [↓reduceIte, Nat.reduceEqDiff, reduceCtorEq]))
      refine And.intro (by simp) ?_
      simp (disch := first | exact dch | fail) only [go_sem, Nat.reduceAdd, Nat.reduceSub, reduceIte, Nat.reduceEqDiff, Int.reduceToNat, Int.reduceBEq, Int.reduceBNe, aret, aretL, aret1, aenv]
      (repeat (with_reducible refine And.intro acl ?_))
      exact end0 (NR.v _) rfl
    · have d2 : decide (now < N) = false := by rw [decide_eq_false_iff_not]; omega
      rw [if_neg hn, if_pos rfl] at c3
      rw [if_pos (show N ≤ now by omega), if_neg (by decide)] at c4
      have c3 : PCall Tryd.prog glob 8 [.agg [ivC 6, stA ⟨#[]⟩, .vsl 1 [stA name] none, .vsl 1 [ivC 4, stA A, nlA, nlA] none], ivC now, .vsl 1 [ivC 3, stA name, stA ⟨#[]⟩] (some 1)] (ivC 0) := c3
      repeat (first
        | (with_reducible refine lops_step fun K hK => ?_; simp (disch := first | exact dch | fail) only [go_sem, Nat.reduceAdd, Nat.reduceSub, reduceIte, Nat.reduceEqDiff, Int.reduceToNat, Int.reduceBEq, Int.reduceBNe, d1, d2, List.replicate_succ, List.replicate_zero, List.flatten_cons, List.flatten_nil, List.cons_append, List.nil_append]; (try (first | (refine And.intro (fun _ => ?_) (fun h => absurd h (by decide))) | (refine And.intro (fun h => absurd h (by decide)) (fun _ => ?_)))); (repeat (with_reducible refine And.intro acl ?_)); (first | (refine hK _ _ ?_) | (refine ⟨_, rfl, hK _ _ ?_⟩) | (refine Or.inl (hK _ _ ?_)) | (refine ⟨_, _, Or.inl (aw.go _), (by first | exact ⟨[], (List.append_nil _).symm⟩ | exact ⟨_, rfl⟩), hK _ _ ?_⟩) | (refine ⟨_, _, Or.inl (aw.go _), hK _ _ ?_⟩) | (refine ⟨_, _, Or.inl (aw.go _).weakQ, hK _ _ ?_⟩) | (refine ⟨_, _, Or.inl (tp.go _), (by first | exact ⟨[], (List.append_nil _).symm⟩ | exact ⟨_, rfl⟩), hK _ _ ?_⟩) | (refine ⟨_, _, Or.inl (tp.go _), hK _ _ ?_⟩) | (refine ⟨_, _, Or.inl (tp.go _).weakQ, hK _ _ ?_⟩) | (refine ⟨_, _, Or.inl (po.go _), (by first | exact ⟨[], (List.append_nil _).symm⟩ | exact ⟨_, rfl⟩), hK _ _ ?_⟩) | (refine ⟨_, _, Or.inl (po.go _), hK _ _ ?_⟩) | (refine ⟨_, _, Or.inl (po.go _).weakQ, hK _ _ ?_⟩) | (refine ⟨_, _, Or.inl (gp.go _), (by first | exact ⟨[], (List.append_nil _).symm⟩ | exact ⟨_, rfl⟩), hK _ _ ?_⟩) | (refine ⟨_, _, Or.inl (gp.go _), hK _ _ ?_⟩) | (refine ⟨_, _, Or.inl (gp.go _).weakQ, hK _ _ ?_⟩) | (refine ⟨_, _, Or.inl (c3.go _), (by first | exact ⟨[], (List.append_nil _).symm⟩ | exact ⟨_, rfl⟩), hK _ _ ?_⟩) | (refine ⟨_, _, Or.inl (c3.go _), hK _ _ ?_⟩) | (refine ⟨_, _, Or.inl (c3.go _).weakQ, hK _ _ ?_⟩) | (refine ⟨_, _, Or.inl (c4.go _), (by first | exact ⟨[], (List.append_nil _).symm⟩ | exact ⟨_, rfl⟩), hK _ _ ?_⟩) | (refine ⟨_, _, Or.inl (c4.go _), hK _ _ ?_⟩) | (refine ⟨_, _, Or.inl (c4.go _).weakQ, hK _ _ ?_⟩)); clear hK K)
        | (with_reducible refine lops_nil ?_)
        | (with_reducible first | refine lavc_reg ?_ | refine lavc_seq ?_ | refine lavc_block ?_ | refine lavc_skip ?_ | refine lavc_exit ?_ | refine lavc_ret ?_ | refine lavcR_round ?_)
        | (refine lavc_cond rfl (fun _ => ?_) (fun hc => absurd hc (by decide)))
        | (refine lavc_cond rfl (fun hc => absurd hc (by decide)) (fun _ => ?_))
        | (simp only [↓reduceIte, Nat.reduceEqDiff, reduceCtorEq]))
      refine And.intro (by simp) ?_
      simp (disch := first | exact dch | fail) only [go_sem, Nat.reduceAdd, Nat.reduceSub, reduceIte, Nat.reduceEqDiff, Int.reduceToNat, Int.reduceBEq, Int.reduceBNe, aret, aretL, aret1, aenv]
      (repeat (with_reducible refine And.intro acl ?_))
      exact end0 (NR.v _) rfl
  · have d : ((g : Int) != 0) = true := by rw [bne_iff_ne, ne_eq]; omega
    repeat (first
      | (with_reducible refine lops_step fun K hK => ?_; simp (disch := first | exact dch | fail) only [go_sem, Nat.reduceAdd, Nat.reduceSub, reduceIte, Nat.reduceEqDiff, Int.reduceToNat, Int.reduceBEq, Int.reduceBNe, d1, d, List.replicate_succ, List.replicate_zero, List.flatten_cons, List.flatten_nil, List.cons_append, List.nil_append]; (try (first | (refine And.intro (fun _ => ?_) (fun h => absurd h (by decide))) | (refine And.intro (fun h => absurd h (by decide)) (fun _ => ?_)))); (repeat (with_reducible refine And.intro acl ?_)); (first | (refine hK _ _ ?_) | (refine ⟨_, rfl, hK _ _ ?_⟩) | (refine Or.inl (hK _ _ ?_)) | (refine ⟨_, _, Or.inl (aw.go _), (by first | exact ⟨[], (List.append_nil _).symm⟩ | exact ⟨_, rfl⟩), hK _ _ ?_⟩) | (refine ⟨_, _, Or.inl (aw.go _), hK _ _ ?_⟩) | (refine ⟨_, _, Or.inl (aw.go _).weakQ, hK _ _ ?_⟩) | (refine ⟨_, _, Or.inl (tp.go _), (by first | exact ⟨[], (List.append_nil _).symm⟩ | exact ⟨_, rfl⟩), hK _ _ ?_⟩) | (refine ⟨_, _, Or.inl (tp.go _), hK _ _ ?_⟩) | (refine ⟨_, _, Or.inl (tp.go _).weakQ, hK _ _ ?_⟩) | (refine ⟨_, _, Or.inl (po.go _), (by first | exact ⟨[], (List.append_nil _).symm⟩ | exact ⟨_, rfl⟩), hK _ _ ?_⟩) | (refine ⟨_, _, Or.inl (po.go _), hK _ _ ?_⟩) | (refine ⟨_, _, Or.inl (po.go _).weakQ, hK _ _ ?_⟩) | (refine ⟨_, _, Or.inl (gp.go _), (by first | exact ⟨[], (List.append_nil _).symm⟩ | exact ⟨_, rfl⟩), hK _ _ ?_⟩) | (refine ⟨_, _, Or.inl (gp.go _), hK _ _ ?_⟩) | (refine ⟨_, _, Or.inl (gp.go _).weakQ, hK _ _ ?_⟩)); clear hK K)
      | (with_reducible refine lops_nil ?_)
      | (with_reducible first | refine lavc_reg ?_ | refine lavc_seq ?_ | refine lavc_block ?_ | refine lavc_skip ?_ | refine lavc_exit ?_ | refine lavc_ret ?_ | refine lavcR_round ?_)
      | (refine lavc_cond rfl (fun _ => ?_) (fun hc => absurd hc (by decide)))
      | (refine lavc_cond rfl (fun hc => absurd hc (by decide)) (fun _ => ?_))
      | (simp only [↓reduceIte, Nat.reduceEqDiff, reduceCtorEq]))
    refine And.intro (by simp) ?_
    simp (disch := first | exact dch | fail) only [go_sem, Nat.reduceAdd, Nat.reduceSub, reduceIte, Nat.reduceEqDiff, Int.reduceToNat, Int.reduceBEq, Int.reduceBNe, aret, aretL, aret1, aenv]
    (repeat (with_reducible refine And.intro acl ?_))
    exact end0 (NR.v _) rfl
end Go.Abs.S
namespace Go.Abs.S
open Go.Proofs
set_option maxRecDepth 100000
def impCodS : FuncId → Bool := fun _ => false
/-- escutcheon/page.Same -/
def lc15 : LCode := .seq (.reg []
  [⟨some 2, .box 26 (.tmp 0), none⟩,
  ⟨some 3, .box 26 (.tmp 1), none⟩,
  ⟨some 4, .assign (.const (.bool false)), none⟩]) (.seq (.reg []
  [⟨some 5, .fieldAddr 26 (.tmp 2) 0, none⟩,
  ⟨some 6, .load 22 (.tmp 5), none⟩,
  ⟨some 7, .fieldAddr 26 (.tmp 3) 0, none⟩,
  ⟨some 8, .load 22 (.tmp 7), none⟩,
  ⟨some 9, .binOp .eql 22 (.tmp 6) (.tmp 8) 22, none⟩,
  ⟨some 10, .move (.tmp 9), none⟩,
  ⟨some 11, .fieldAddr 26 (.tmp 2) 1, (some (10, true))⟩,
  ⟨some 12, .load 9 (.tmp 11), (some (10, true))⟩,
  ⟨some 13, .fieldAddr 26 (.tmp 3) 1, (some (10, true))⟩,
  ⟨some 14, .load 9 (.tmp 13), (some (10, true))⟩,
  ⟨some 15, .binOp .eql 9 (.tmp 12) (.tmp 14) 9, (some (10, true))⟩,
  ⟨some 16, .pick (.tmp 10) (.tmp 15) (.const (.bool false)), none⟩,
  ⟨some 17, .move (.tmp 16), none⟩,
  ⟨some 18, .fieldAddr 26 (.tmp 2) 2, (some (17, true))⟩,
  ⟨some 19, .load 23 (.tmp 18), (some (17, true))⟩,
  ⟨some 20, .fieldAddr 26 (.tmp 3) 2, (some (17, true))⟩,
  ⟨some 21, .load 23 (.tmp 20), (some (17, true))⟩,
  ⟨some 22, .call { callee := .value (.func 27), args := #[.tmp 19, .tmp 21], argTypes := #[23, 23] }, (some (17, true))⟩,
  ⟨some 23, .pick (.tmp 17) (.tmp 22) (.const (.bool false)), none⟩,
  ⟨some 24, .move (.tmp 23), none⟩,
  ⟨some 25, .fieldAddr 26 (.tmp 2) 3, (some (24, true))⟩,
  ⟨some 26, .load 24 (.tmp 25), (some (24, true))⟩,
  ⟨some 27, .fieldAddr 26 (.tmp 3) 3, (some (24, true))⟩,
  ⟨some 28, .load 24 (.tmp 27), (some (24, true))⟩,
  ⟨some 29, .call { callee := .value (.func 28), args := #[.tmp 26, .tmp 28, .func 15], argTypes := #[24, 24, 48] }, (some (24, true))⟩,
  ⟨some 30, .pick (.tmp 24) (.tmp 29) (.const (.bool false)), none⟩,
  ⟨some 4, .assign (.tmp 30), none⟩]) (.ret))
theorem ls15 : Tryd.f15.body.map (strip Tryd.prog impCodS) = some lc15 := by kernel_rfl
theorem lcall15 {args : List AV} (hargs : args.length ≤ 31) {H0 : AHeap} (lo : Nat) (hlo : H0.length ≤ lo) {r0 : AV} {H0' : AHeap}
    (h : lavc Tryd.prog glob lc15 (args ++ List.replicate (31 - args.length) (.v undef)) H0 fun e t H => (e = .normal ∨ e = .ret) ∧ aret Tryd.prog t H [Go.ResultVar.tmp 4] fun r => Fin lo H r r0 H0') :
    ACall Tryd.prog glob (H0.length == 0) 15 args H0 r0 H0' := LCall' ctx Tryd.func15 (by kernel_rfl) ls15 (by kernel_rfl) (by kernel_rfl) hargs lo hlo h
/-- slices.Equal[[]string,string] -/
def lc27 : LCode := .seq (.reg []
  [⟨some 4, .assign (.const (.bool false)), none⟩]) (.seq (.seq (.reg []
  [⟨some 6, .move (.tmp 0), none⟩,
  ⟨some 7, .call { callee := .builtin .len, args := #[.tmp 6], argTypes := #[23] }, none⟩,
  ⟨some 8, .move (.tmp 1), none⟩,
  ⟨some 9, .call { callee := .builtin .len, args := #[.tmp 8], argTypes := #[23] }, none⟩,
  ⟨some 10, .binOp .neq 3 (.tmp 7) (.tmp 9) 3, none⟩]) (.cond (.tmp 10) (.seq (.reg []
  [⟨some 4, .assign (.const (.bool false)), none⟩]) (.ret)) (.skip))) (.seq (.seq (.reg []
  [⟨some 11, .move (.tmp 0), none⟩,
  ⟨some 12, .call { callee := .builtin .len, args := #[.tmp 11], argTypes := #[23] }, none⟩,
  ⟨some 13, .move (.const (.int .i64 0)), none⟩]) (.block 0 (.loop (.seq (.reg []
  [⟨some 14, .binOp .lss 3 (.tmp 13) (.tmp 12) 3, none⟩]) (.seq (.cond (.tmp 14) (.skip) (.exit 0)) (.seq (.block 1 (.seq (.reg []
  [⟨some 15, .move (.tmp 13), none⟩,
  ⟨some 5, .assign (.tmp 15), none⟩]) (.seq (.reg [⟨some 16, .move (.tmp 0), none⟩,
  ⟨some 17, .move (.tmp 5), none⟩,
  ⟨some 18, .indexAddr 23 (.tmp 16) (.tmp 17), none⟩,
  ⟨some 19, .load 9 (.tmp 18), none⟩,
  ⟨some 20, .move (.tmp 1), none⟩,
  ⟨some 21, .move (.tmp 5), none⟩,
  ⟨some 22, .indexAddr 23 (.tmp 20) (.tmp 21), none⟩,
  ⟨some 23, .load 9 (.tmp 22), none⟩,
  ⟨some 24, .binOp .neq 9 (.tmp 19) (.tmp 23) 9, none⟩]
  []) (.cond (.tmp 24) (.seq (.reg []
  [⟨some 4, .assign (.const (.bool false)), none⟩]) (.ret)) (.skip))))) (.reg []
  [⟨some 25, .binOp .add 3 (.tmp 13) (.const (.int .i64 1)) 3, none⟩,
  ⟨some 13, .move (.tmp 25), none⟩]))))))) (.seq (.reg []
  [⟨some 4, .assign (.const (.bool true)), none⟩]) (.ret))))
def ms27_0 : List Nat := [2, 3, 4, 5, 6, 7, 8, 9, 10, 11, 13, 14, 15, 16, 17, 18, 19, 20, 21, 22, 23, 24, 25]
theorem ls27 : Tryd.f27.body.map (strip Tryd.prog impCodS) = some lc27 := by kernel_rfl
theorem lcall27 {args : List AV} (hargs : args.length ≤ 26) {H0 : AHeap} (lo : Nat) (hlo : H0.length ≤ lo) {r0 : AV} {H0' : AHeap}
    (h : lavc Tryd.prog glob lc27 (args ++ List.replicate (26 - args.length) (.v undef)) H0 fun e t H => (e = .normal ∨ e = .ret) ∧ aret Tryd.prog t H [Go.ResultVar.tmp 4] fun r => Fin lo H r r0 H0') :
    ACall Tryd.prog glob (H0.length == 0) 27 args H0 r0 H0' := LCall' ctx Tryd.func27 (by kernel_rfl) ls27 (by kernel_rfl) (by kernel_rfl) hargs lo hlo h
/-- slices.EqualFunc[[]escutcheon/page.Value,[]escutcheon/page.Value,escutcheon/page.Value,escutcheon/page.Value] -/
def lc28 : LCode := .seq (.reg []
  [⟨some 6, .assign (.const (.bool false)), none⟩]) (.seq (.seq (.reg []
  [⟨some 10, .move (.tmp 0), none⟩,
  ⟨some 11, .call { callee := .builtin .len, args := #[.tmp 10], argTypes := #[24] }, none⟩,
  ⟨some 12, .move (.tmp 1), none⟩,
  ⟨some 13, .call { callee := .builtin .len, args := #[.tmp 12], argTypes := #[24] }, none⟩,
  ⟨some 14, .binOp .neq 3 (.tmp 11) (.tmp 13) 3, none⟩]) (.cond (.tmp 14) (.seq (.reg []
  [⟨some 6, .assign (.const (.bool false)), none⟩]) (.ret)) (.skip))) (.seq (.seq (.reg []
  [⟨some 15, .move (.tmp 0), none⟩,
  ⟨some 16, .call { callee := .builtin .len, args := #[.tmp 15], argTypes := #[24] }, none⟩,
  ⟨some 17, .move (.const (.int .i64 0)), none⟩]) (.block 0 (.loop (.seq (.reg []
  [⟨some 18, .binOp .lss 3 (.tmp 17) (.tmp 16) 3, none⟩]) (.seq (.cond (.tmp 18) (.skip) (.exit 0)) (.seq (.block 1 (.seq (.reg []
  [⟨some 19, .move (.tmp 17), none⟩,
  ⟨some 20, .indexAddr 24 (.tmp 15) (.tmp 17), none⟩,
  ⟨some 21, .load 26 (.tmp 20), none⟩,
  ⟨some 8, .alloc 26, none⟩,
  ⟨some 7, .assign (.tmp 19), none⟩,
  ⟨none, .store 26 (.tmp 8) (.tmp 21), none⟩]) (.seq (.reg []
  [⟨some 22, .move (.tmp 1), none⟩,
  ⟨some 23, .move (.tmp 7), none⟩,
  ⟨some 24, .indexAddr 24 (.tmp 22) (.tmp 23), none⟩,
  ⟨some 25, .load 26 (.tmp 24), none⟩,
  ⟨some 9, .alloc 26, none⟩,
  ⟨none, .store 26 (.tmp 9) (.tmp 25), none⟩]) (.seq (.reg []
  [⟨some 26, .move (.tmp 2), none⟩,
  ⟨some 27, .load 26 (.tmp 8), none⟩,
  ⟨some 28, .load 26 (.tmp 9), none⟩,
  ⟨some 29, .call { callee := .value (.tmp 26), args := #[.tmp 27, .tmp 28], argTypes := #[26, 26] }, none⟩,
  ⟨some 30, .unOp .not 4 (.tmp 29), none⟩]) (.cond (.tmp 30) (.seq (.reg []
  [⟨some 6, .assign (.const (.bool false)), none⟩]) (.ret)) (.skip)))))) (.reg []
  [⟨some 31, .binOp .add 3 (.tmp 17) (.const (.int .i64 1)) 3, none⟩,
  ⟨some 17, .move (.tmp 31), none⟩]))))))) (.seq (.reg []
  [⟨some 6, .assign (.const (.bool true)), none⟩]) (.ret))))
def ms28_0 : List Nat := [0, 3, 4, 5, 6, 7, 8, 9, 10, 11, 12, 13, 14, 17, 18, 19, 20, 21, 22, 23, 24, 25, 26, 27, 28, 29, 30, 31]
theorem ls28 : Tryd.f28.body.map (strip Tryd.prog impCodS) = some lc28 := by kernel_rfl
theorem lcall28 {args : List AV} (hargs : args.length ≤ 32) {H0 : AHeap} (lo : Nat) (hlo : H0.length ≤ lo) {r0 : AV} {H0' : AHeap}
    (h : lavc Tryd.prog glob lc28 (args ++ List.replicate (32 - args.length) (.v undef)) H0 fun e t H => (e = .normal ∨ e = .ret) ∧ aret Tryd.prog t H [Go.ResultVar.tmp 6] fun r => Fin lo H r r0 H0') :
    ACall Tryd.prog glob (H0.length == 0) 28 args H0 r0 H0' := LCall' ctx Tryd.func28 (by kernel_rfl) ls28 (by kernel_rfl) (by kernel_rfl) hargs lo hlo h
/-- escutcheon/escutcheonlaw22.ClaimMakes -/
def lc5 : LCode := .seq (.reg []
  [⟨some 2, .box 43 (.tmp 0), none⟩,
  ⟨some 4, .assign (.const (.bool false)), none⟩]) (.seq (.seq (.reg []
  [⟨some 16, .call { callee := .value (.func 6), args := #[], argTypes := #[] }, none⟩,
  ⟨some 17, .unOp .not 4 (.tmp 16), none⟩,
  ⟨some 18, .move (.tmp 17), none⟩,
  ⟨some 19, .fieldAddr 43 (.tmp 2) 0, (some (18, false))⟩,
  ⟨some 20, .load 9 (.tmp 19), (some (18, false))⟩,
  ⟨some 21, .call { callee := .builtin .len, args := #[.tmp 20], argTypes := #[9] }, (some (18, false))⟩,
  ⟨some 22, .binOp .gtr 3 (.tmp 21) (.const (.int .i64 60)) 3, (some (18, false))⟩,
  ⟨some 23, .pick (.tmp 18) (.const (.bool true)) (.tmp 22), none⟩,
  ⟨some 24, .move (.tmp 23), none⟩,
  ⟨some 25, .fieldAddr 43 (.tmp 2) 1, (some (24, false))⟩,
  ⟨some 26, .load 9 (.tmp 25), (some (24, false))⟩,
  ⟨some 27, .call { callee := .builtin .len, args := #[.tmp 26], argTypes := #[9] }, (some (24, false))⟩,
  ⟨some 28, .binOp .gtr 3 (.tmp 27) (.const (.int .i64 60)) 3, (some (24, false))⟩,
  ⟨some 29, .pick (.tmp 24) (.const (.bool true)) (.tmp 28), none⟩,
  ⟨some 30, .move (.tmp 29), none⟩,
  ⟨some 31, .fieldAddr 43 (.tmp 2) 4, (some (30, false))⟩,
  ⟨some 32, .load 23 (.tmp 31), (some (30, false))⟩,
  ⟨some 33, .call { callee := .builtin .len, args := #[.tmp 32], argTypes := #[23] }, (some (30, false))⟩,
  ⟨some 34, .binOp .gtr 3 (.tmp 33) (.const (.int .i64 20)) 3, (some (30, false))⟩,
  ⟨some 35, .pick (.tmp 30) (.const (.bool true)) (.tmp 34), none⟩]) (.cond (.tmp 35) (.seq (.reg []
  [⟨some 36, .call { callee := .value (.func 6), args := #[], argTypes := #[] }, none⟩,
  ⟨some 4, .assign (.tmp 36), none⟩]) (.ret)) (.skip))) (.seq (.reg []
  [⟨some 38, .fieldAddr 43 (.tmp 2) 0, none⟩,
  ⟨some 39, .load 9 (.tmp 38), none⟩,
  ⟨some 40, .fieldAddr 43 (.tmp 2) 1, none⟩,
  ⟨some 41, .load 9 (.tmp 40), none⟩,
  ⟨some 42, .fieldAddr 43 (.tmp 2) 2, none⟩,
  ⟨some 43, .load 3 (.tmp 42), none⟩,
  ⟨some 44, .fieldAddr 43 (.tmp 2) 3, none⟩,
  ⟨some 45, .load 3 (.tmp 44), none⟩,
  ⟨some 46, .fieldAddr 43 (.tmp 2) 4, none⟩,
  ⟨some 47, .load 23 (.tmp 46), none⟩,
  ⟨some 48, .call { callee := .value (.func 12), args := #[.tmp 39, .tmp 41, .tmp 43, .tmp 45, .tmp 47], argTypes := #[9, 9, 3, 3, 23] }, none⟩,
  ⟨some 37, .move (.tmp 48), none⟩,
  ⟨some 49, .extract (.tmp 37) 0, none⟩,
  ⟨some 50, .extract (.tmp 37) 1, none⟩,
  ⟨some 5, .alloc 26, none⟩,
  ⟨none, .store 26 (.tmp 5) (.tmp 49), none⟩,
  ⟨some 6, .assign (.tmp 50), none⟩]) (.seq (.seq (.reg []
  [⟨some 51, .fieldAddr 43 (.tmp 2) 2, none⟩,
  ⟨some 52, .load 3 (.tmp 51), none⟩,
  ⟨some 53, .fieldAddr 43 (.tmp 2) 3, none⟩,
  ⟨some 54, .load 3 (.tmp 53), none⟩,
  ⟨some 55, .build 46 #[(0, .tmp 52), (1, .tmp 54)], none⟩,
  ⟨some 56, .move (.const (.int .i64 0)), none⟩]) (.block 0 (.loop (.seq (.reg []
  [⟨some 57, .binOp .lss 3 (.tmp 56) (.const (.int .i64 2)) 3, none⟩]) (.seq (.cond (.tmp 57) (.skip) (.exit 0)) (.seq (.block 1 (.seq (.reg []
  [⟨some 58, .index 46 (.tmp 55) (.tmp 56), none⟩,
  ⟨some 8, .assign (.tmp 58), none⟩]) (.seq (.reg []
  [⟨some 59, .move (.tmp 8), none⟩,
  ⟨some 60, .call { callee := .value (.func 13), args := #[], argTypes := #[] }, none⟩,
  ⟨some 61, .binOp .lss 3 (.tmp 59) (.tmp 60) 3, none⟩,
  ⟨some 62, .move (.tmp 61), none⟩,
  ⟨some 63, .move (.tmp 8), (some (62, false))⟩,
  ⟨some 64, .call { callee := .value (.func 14), args := #[], argTypes := #[] }, (some (62, false))⟩,
  ⟨some 65, .binOp .gtr 3 (.tmp 63) (.tmp 64) 3, (some (62, false))⟩,
  ⟨some 66, .pick (.tmp 62) (.const (.bool true)) (.tmp 65), none⟩]) (.cond (.tmp 66) (.seq (.reg []
  [⟨some 67, .move (.tmp 6), none⟩,
  ⟨some 68, .binOp .eql 31 (.tmp 67) (.const (.int .i64 12)) 31, none⟩,
  ⟨some 69, .move (.tmp 68), none⟩,
  ⟨some 70, .load 26 (.tmp 5), (some (69, true))⟩,
  ⟨some 71, .build 26 #[], (some (69, true))⟩,
  ⟨some 72, .call { callee := .value (.func 15), args := #[.tmp 70, .tmp 71], argTypes := #[26, 26] }, (some (69, true))⟩,
  ⟨some 73, .pick (.tmp 69) (.tmp 72) (.const (.bool false)), none⟩,
  ⟨some 4, .assign (.tmp 73), none⟩]) (.ret)) (.skip))))) (.reg []
  [⟨some 74, .binOp .add 3 (.tmp 56) (.const (.int .i64 1)) 3, none⟩,
  ⟨some 56, .move (.tmp 74), none⟩]))))))) (.seq (.reg []
  [⟨some 76, .fieldAddr 43 (.tmp 2) 2, none⟩,
  ⟨some 77, .load 3 (.tmp 76), none⟩,
  ⟨some 78, .call { callee := .value (.func 9), args := #[.tmp 77], argTypes := #[3] }, none⟩,
  ⟨some 75, .move (.tmp 78), none⟩,
  ⟨some 79, .extract (.tmp 75) 0, none⟩,
  ⟨some 80, .extract (.tmp 75) 1, none⟩,
  ⟨some 9, .assign (.tmp 79), none⟩,
  ⟨some 10, .assign (.tmp 80), none⟩]) (.seq (.reg []
  [⟨some 82, .fieldAddr 43 (.tmp 2) 3, none⟩,
  ⟨some 83, .load 3 (.tmp 82), none⟩,
  ⟨some 84, .call { callee := .value (.func 9), args := #[.tmp 83], argTypes := #[3] }, none⟩,
  ⟨some 81, .move (.tmp 84), none⟩,
  ⟨some 85, .extract (.tmp 81) 0, none⟩,
  ⟨some 86, .extract (.tmp 81) 1, none⟩,
  ⟨some 11, .assign (.tmp 85), none⟩,
  ⟨some 12, .assign (.tmp 86), none⟩]) (.seq (.reg []
  [⟨some 87, .fieldAddr 43 (.tmp 2) 0, none⟩,
  ⟨some 88, .load 9 (.tmp 87), none⟩,
  ⟨some 89, .fieldAddr 43 (.tmp 2) 1, none⟩,
  ⟨some 90, .load 9 (.tmp 89), none⟩,
  ⟨some 91, .move (.tmp 9), none⟩,
  ⟨some 92, .move (.tmp 11), none⟩,
  ⟨some 93, .buildSlice 23 8 #[(0, .const (.string { data := #[105, 115, 115] })), (1, .tmp 88), (2, .const (.string { data := #[97, 117, 100] })), (3, .tmp 90), (4, .const (.string { data := #[110, 98, 102] })), (5, .tmp 91), (6, .const (.string { data := #[101, 120, 112] })), (7, .tmp 92)], none⟩,
  ⟨some 94, .fieldAddr 43 (.tmp 2) 4, none⟩,
  ⟨some 95, .load 23 (.tmp 94), none⟩,
  ⟨some 96, .call { callee := .builtin .append, args := #[.tmp 93, .tmp 95], argTypes := #[23, 23] }, none⟩,
  ⟨some 97, .call { callee := .value (.func 10), args := #[.tmp 96], argTypes := #[23] }, none⟩,
  ⟨some 13, .alloc 26, none⟩,
  ⟨none, .store 26 (.tmp 13) (.tmp 97), none⟩]) (.seq (.seq (.reg []
  [⟨some 98, .load 26 (.tmp 13), none⟩,
  ⟨some 99, .call { callee := .value (.func 11), args := #[.tmp 98], argTypes := #[26] }, none⟩,
  ⟨some 14, .assign (.tmp 99), none⟩]) (.seq (.reg []
  [⟨some 100, .move (.tmp 14), none⟩,
  ⟨some 101, .binOp .neq 31 (.tmp 100) (.const (.int .i64 0)) 31, none⟩]) (.cond (.tmp 101) (.seq (.reg []
  [⟨some 102, .move (.tmp 6), none⟩,
  ⟨some 103, .move (.tmp 14), none⟩,
  ⟨some 104, .binOp .eql 31 (.tmp 102) (.tmp 103) 31, none⟩,
  ⟨some 105, .move (.tmp 104), none⟩,
  ⟨some 106, .load 26 (.tmp 5), (some (105, true))⟩,
  ⟨some 107, .build 26 #[], (some (105, true))⟩,
  ⟨some 108, .call { callee := .value (.func 15), args := #[.tmp 106, .tmp 107], argTypes := #[26, 26] }, (some (105, true))⟩,
  ⟨some 109, .pick (.tmp 105) (.tmp 108) (.const (.bool false)), none⟩,
  ⟨some 4, .assign (.tmp 109), none⟩]) (.ret)) (.skip)))) (.seq (.reg [⟨some 110, .load 26 (.tmp 5), none⟩,
  ⟨some 111, .move (.tmp 1), none⟩,
  ⟨some 112, .fieldAddr 43 (.tmp 2) 0, none⟩,
  ⟨some 113, .load 9 (.tmp 112), none⟩,
  ⟨some 114, .fieldAddr 43 (.tmp 2) 1, none⟩,
  ⟨some 115, .load 9 (.tmp 114), none⟩,
  ⟨some 116, .call { callee := .value (.func 16), args := #[.tmp 113, .tmp 115], argTypes := #[9, 9] }, none⟩,
  ⟨some 117, .call { callee := .value (.func 8), args := #[.tmp 110, .tmp 111, .tmp 116], argTypes := #[26, 3, 27] }, none⟩,
  ⟨some 118, .binOp .eql 31 (.tmp 117) (.const (.int .i64 0)) 31, none⟩,
  ⟨some 15, .assign (.tmp 118), none⟩]
  []) (.seq (.reg [⟨some 119, .move (.tmp 6), none⟩,
  ⟨some 120, .binOp .eql 31 (.tmp 119) (.const (.int .i64 0)) 31, none⟩,
  ⟨some 121, .move (.tmp 120), none⟩,
  ⟨some 122, .load 26 (.tmp 5), (some (121, true))⟩,
  ⟨some 123, .load 26 (.tmp 13), (some (121, true))⟩,
  ⟨some 124, .call { callee := .value (.func 15), args := #[.tmp 122, .tmp 123], argTypes := #[26, 26] }, (some (121, true))⟩,
  ⟨some 125, .pick (.tmp 121) (.tmp 124) (.const (.bool false)), none⟩,
  ⟨some 126, .move (.tmp 125), none⟩,
  ⟨some 127, .move (.tmp 15), (some (126, true))⟩,
  ⟨some 128, .fieldAddr 43 (.tmp 2) 2, (some (126, true))⟩,
  ⟨some 129, .load 3 (.tmp 128), (some (126, true))⟩,
  ⟨some 130, .move (.tmp 1), (some (126, true))⟩,
  ⟨some 131, .binOp .leq 3 (.tmp 129) (.tmp 130) 3, (some (126, true))⟩,
  ⟨some 132, .move (.tmp 131), (some (126, true))⟩,
  ⟨some 133, .move (.tmp 1), (some (132, true))⟩,
  ⟨some 134, .fieldAddr 43 (.tmp 2) 3, (some (132, true))⟩,
  ⟨some 135, .load 3 (.tmp 134), (some (132, true))⟩,
  ⟨some 136, .binOp .lss 3 (.tmp 133) (.tmp 135) 3, (some (132, true))⟩,
  ⟨some 137, .pick (.tmp 132) (.tmp 136) (.const (.bool false)), (some (126, true))⟩,
  ⟨some 138, .binOp .eql 4 (.tmp 127) (.tmp 137) 4, (some (126, true))⟩,
  ⟨some 139, .pick (.tmp 126) (.tmp 138) (.const (.bool false)), none⟩,
  ⟨some 140, .move (.tmp 139), none⟩,
  ⟨some 141, .load 26 (.tmp 5), (some (140, true))⟩,
  ⟨some 142, .fieldAddr 43 (.tmp 2) 2, (some (140, true))⟩,
  ⟨some 143, .load 3 (.tmp 142), (some (140, true))⟩,
  ⟨some 144, .fieldAddr 43 (.tmp 2) 0, (some (140, true))⟩,
  ⟨some 145, .load 9 (.tmp 144), (some (140, true))⟩,
  ⟨some 146, .binOp .add 9 (.tmp 145) (.const (.string { data := #[120] })) 9, (some (140, true))⟩,
  ⟨some 147, .fieldAddr 43 (.tmp 2) 1, (some (140, true))⟩,
  ⟨some 148, .load 9 (.tmp 147), (some (140, true))⟩,
  ⟨some 149, .call { callee := .value (.func 16), args := #[.tmp 146, .tmp 148], argTypes := #[9, 9] }, (some (140, true))⟩,
  ⟨some 150, .call { callee := .value (.func 8), args := #[.tmp 141, .tmp 143, .tmp 149], argTypes := #[26, 3, 27] }, (some (140, true))⟩,
  ⟨some 151, .binOp .eql 31 (.tmp 150) (.const (.int .i64 15)) 31, (some (140, true))⟩,
  ⟨some 152, .pick (.tmp 140) (.tmp 151) (.const (.bool false)), none⟩,
  ⟨some 4, .assign (.tmp 152), none⟩]
  []) (.ret))))))))))
def ms5_0 : List Nat := [0, 3, 4, 7, 8, 10, 12, 16, 17, 18, 19, 20, 21, 22, 23, 24, 25, 26, 27, 28, 29, 30, 31, 32, 33, 34, 35, 36, 37, 38, 39, 40, 41, 42, 43, 44, 45, 46, 47, 48, 49, 50, 51, 52, 53, 54, 56, 57, 58, 59, 60, 61, 62, 63, 64, 65, 66, 67, 68, 69, 70, 71, 72, 73, 74]
theorem ls5 : Tryd.f5.body.map (strip Tryd.prog impCodS) = some lc5 := by kernel_rfl
theorem lcall5 {args : List AV} (hargs : args.length ≤ 153) {H0 : AHeap} (lo : Nat) (hlo : H0.length ≤ lo) {r0 : AV} {H0' : AHeap}
    (h : lavc Tryd.prog glob lc5 (args ++ List.replicate (153 - args.length) (.v undef)) H0 fun e t H => (e = .normal ∨ e = .ret) ∧ aret Tryd.prog t H [Go.ResultVar.tmp 4] fun r => Fin lo H r r0 H0') :
    ACall Tryd.prog glob (H0.length == 0) 5 args H0 r0 H0' := LCall' ctx Tryd.func5 (by kernel_rfl) ls5 (by kernel_rfl) (by kernel_rfl) hargs lo hlo h
end Go.Abs.S
namespace Go.Abs.S
attribute [local go_sem] lguard aopO aop nxL aenv toAV tput aLoad aStore vcells aBin aNilI aUn aAlloc aBox aBuild aBSlice afill aConv isIntT aappZ aCap aArr aMM aMake aSlice bnd3 bnd aFldAddr aFld aIdxAddr aIdx aExt aLen aCopy aEq0 bAV aUb aapp aappQ agh acont List.getD_cons_zero List.getD_cons_succ List.set_cons_zero List.set_cons_succ List.getElem?_cons_zero List.getElem?_cons_succ List.length_cons List.length_nil List.map_cons List.map_nil ints_length if_true if_false Bool.false_eq_true true_and and_true eq_self ne_eq not_false_eq_true not_true_eq_false beq_self_eq_true Nat.zero_add Nat.add_zero Nat.mul_one Nat.zero_mul Int.toNat_natCast List.toList_toArray List.all_cons List.all_nil AV.one Value.oneCell' Bool.and_true Bool.true_and forall_const true_implies false_implies implies_true Option.map_some Option.map_none Option.isSome_some Option.isSome_none imp_self rdP_flat rdP_row splice_one ints_set ints_get List.append_nil List.cons_append List.nil_append List.getElem?_toArray List.drop_zero ints_drop ints_take List.take_of_length_le splice_all ints_one Option.some.injEq Option.getD_some List.length_replicate zArr List.map_replicate rep_ints splice_intsR List.length_set List.length_append List.flatten_replicate_singleton rep_slice rep_string rep_bool rep_iface List.replicate_zero if_pos if_neg List.mapM_cons List.mapM_nil Option.pure_def Option.bind_eq_bind Option.bind_some Bool.true_eq_false Bool.not_false Bool.not_true get_concat set_concat
open Go.Proofs
set_option linter.unusedVariables false
set_option linter.unusedSimpArgs false
set_option maxRecDepth 100000
set_option maxHeartbeats 4000000
theorem bne_self (y : ByteArray) : (y.toList == y.toList) = true := by simp
theorem equalR_p (l : List ByteArray) (c d : Option Nat) (hl : l.length ≤ 1000000) : PCall Tryd.prog glob 27 [.vsl l.length (strs l) c, .vsl l.length (strs l) d] (.v (.bool true)) := by
  refine PCall.of ctx.nr (List.forall_mem_cons.2 ⟨NR.vsl (NR.strs _), List.forall_mem_cons.2 ⟨NR.vsl (NR.strs _), fun _ h => absurd h List.not_mem_nil⟩⟩) (NR.v _) ?_
  refine lcall27 (by simp) 0 (Nat.le_refl _) ?_
  unfold lc27
  simp only [List.length_cons, List.length_nil, Nat.reduceAdd, Nat.reduceSub, List.replicate_succ, List.replicate_zero, List.cons_append, List.nil_append]
  have hs := strs_length l
  have q0 : ((l.length : Int) != (l.length : Int)) = false := by simp
  refine gc1 (an q0 tt) tt tt tt ⟨?_⟩
  refine lavc_loopM ms27_0 (fun m (k : Nat) => m + k = l.length) (fun k => [(13, ivC k)]) (fun _ => []) l.length 0 (by omega) ?_ rfl ?_
  · simp only [ms27_0, putAll, blank, List.foldl_cons, List.foldl_nil, List.set_cons_succ, List.set_cons_zero, List.cons_append, List.nil_append, ALe, true_or, or_true, and_true, true_and, eq_self, reduceCtorEq, false_or]
    rfl
  rintro m k hk
  simp only [ms27_0, putAll, blank, List.foldl_cons, List.foldl_nil, List.set_cons_succ, List.set_cons_zero, List.cons_append, List.nil_append]
  refine go1 tt tt tt tt ⟨?_⟩
  refine lavc_cond rfl (fun hc => ?_) (fun hc => ?_) <;> try simp only [decide_eq_true_eq, decide_eq_false_iff_not, Int.not_lt, Int.not_le, beq_iff_eq, bne_iff_ne, bne_eq_false_iff_eq, beq_eq_false_iff_ne, ne_eq, Bool.not_eq_true', Bool.not_eq_false'] at hc
  · have hkl : k < l.length := by omega
    have hat := strs_at l k hkl
    have e3 := i64n ((k : Int) + 1) (k + 1) (by omega) (by omega)
    obtain ⟨y, hy⟩ : ∃ y, l.getD k ⟨#[]⟩ = y := ⟨_, rfl⟩
    rw [hy] at hat
    have q := bne_self y
    refine gc1 (an hat (an q (an e3 tt))) tt tt tt ⟨?_⟩
    refine ⟨m - 1, k + 1, by omega, by omega, ?_, (by first | rfl | trivial)⟩
    simp only [ms27_0, putAll, blank, List.foldl_cons, List.foldl_nil, List.set_cons_succ, List.set_cons_zero, List.cons_append, List.nil_append, ALe, true_or, or_true, and_true, true_and, eq_self, reduceCtorEq, false_or]
  · refine gc1 tt tt tt tt ⟨?_⟩
    refine And.intro (by simp) ?_
    simp (disch := first | exact dch | fail) only [go_sem, Nat.reduceAdd, Nat.reduceSub, reduceIte, Nat.reduceEqDiff, Int.reduceToNat, Int.reduceBEq, Int.reduceBNe, aret, aretL, aret1, aenv]
    (repeat (with_reducible refine And.intro acl ?_))
    exact end0 (NR.v _) rfl
theorem get_c0 {α : Type} (l : List α) (a b : α) : (l ++ [a, b])[l.length]? = some a := by simp
theorem get_c1 {α : Type} (l : List α) (a b : α) : (l ++ [a, b])[l.length + 1]? = some b := by simp
theorem set_c1 {α : Type} (l : List α) (a b c : α) : (l ++ [a, b]).set (l.length + 1) c = l ++ [a, c] := by
  induction l with
  | nil => rfl
  | cons x l ih => simp [ih]
theorem con_con {α : Type} (l : List α) (a b : α) : l ++ [a] ++ [b] = l ++ [a, b] := by simp
theorem len_con {α : Type} (l : List α) (a : α) : (l ++ [a]).length = l.length + 1 := by simp
/-- A value's cells: no rows, or rows. -/
def Cel4 (c : List AV) : Prop := ∃ k s, c = [ivC k, stA s, nlA, nlA] ∨ ∃ n1 c1 n2 c2, c = [ivC k, stA s, .vsl n1 c1 none, .vsl n2 c2 none]
abbrev SameF : AV := .fn (.func 15) []
theorem SameF.nr : NR SameF := fun σ w u h => by
  cases h with
  | fn us hl ha => exact .fn us hl (fun j hj => absurd hj (Nat.not_lt_zero _))
theorem eqfR_p (n : Nat) (C : List AV) (c d : Option Nat) (hC : C.length = n * 4) (hnr : ∀ x ∈ C, NR x) (hn : n ≤ 1000)
    (hk : ∀ k, k < n → Cel4 ((C.drop (k * 4)).take 4) ∧ PCall Tryd.prog glob 15 [.agg ((C.drop (k * 4)).take 4), .agg ((C.drop (k * 4)).take 4)] (.v (.bool true))) :
    PCall Tryd.prog glob 28 [.vsl n C c, .vsl n C d, SameF] (.v (.bool true)) := by
  refine PCall.of ctx.nr (List.forall_mem_cons.2 ⟨NR.vsl hnr, List.forall_mem_cons.2 ⟨NR.vsl hnr, List.forall_mem_cons.2 ⟨SameF.nr, fun _ h => absurd h List.not_mem_nil⟩⟩⟩) (NR.v _) ?_
  refine lcall28 (by simp) 0 (Nat.le_refl _) ?_
  unfold lc28
  simp only [List.length_cons, List.length_nil, Nat.reduceAdd, Nat.reduceSub, List.replicate_succ, List.replicate_zero, List.cons_append, List.nil_append]
  have q0 : ((n : Int) != (n : Int)) = false := by simp
  refine gc1 (an q0 tt) tt tt tt ⟨?_⟩
  refine lavc_loopM ms28_0 (fun m (x : Nat × AHeap) => m + x.1 = n) (fun x => [(17, ivC x.1)]) (fun x => x.2) n (0, []) (by omega) ?_ rfl ?_
  · simp only [ms28_0, putAll, blank, List.foldl_cons, List.foldl_nil, List.set_cons_succ, List.set_cons_zero, List.cons_append, List.nil_append, ALe, true_or, or_true, and_true, true_and, eq_self, reduceCtorEq, false_or]
    rfl
  rintro m ⟨k, gg⟩ hkm
  simp only at hkm ⊢
  simp only [ms28_0, putAll, blank, List.foldl_cons, List.foldl_nil, List.set_cons_succ, List.set_cons_zero, List.cons_append, List.nil_append]
  refine go1 tt tt tt tt ⟨?_⟩
  refine lavc_cond rfl (fun hc => ?_) (fun hc => ?_) <;> try simp only [decide_eq_true_eq, decide_eq_false_iff_not, Int.not_lt, Int.not_le, beq_iff_eq, bne_iff_ne, bne_eq_false_iff_eq, beq_eq_false_iff_ne, ne_eq, Bool.not_eq_true', Bool.not_eq_false'] at hc
  · have hkn : k < n := by omega
    obtain ⟨⟨i, s, h4⟩, hp⟩ := hk k hkn
    have e3 := i64n ((k : Int) + 1) (k + 1) (by omega) (by omega)
    rcases h4 with h4 | ⟨n1, c1, n2, c2, h4⟩
    · rw [h4] at hp
      repeat (first
        | (with_reducible refine lops_step fun K hK => ?_; simp (disch := first | exact dch | fail) only [go_sem, Nat.reduceAdd, Nat.reduceSub, reduceIte, Nat.reduceEqDiff, Int.reduceToNat, Int.reduceBEq, Int.reduceBNe, h4, hC, e3, get_concat, set_concat, con_con, get_c0, get_c1, set_c1, len_con]; (try (first | (refine And.intro (fun _ => ?_) (fun h => absurd h (by decide))) | (refine And.intro (fun h => absurd h (by decide)) (fun _ => ?_)))); (repeat (with_reducible refine And.intro acl ?_)); (first | (refine hK _ _ ?_) | (refine ⟨_, rfl, hK _ _ ?_⟩) | (refine Or.inl (hK _ _ ?_)) | (refine ⟨_, _, Or.inl (hp.go _), (by first | exact ⟨[], (List.append_nil _).symm⟩ | exact ⟨_, rfl⟩), hK _ _ ?_⟩) | (refine ⟨_, _, Or.inl (hp.go _), hK _ _ ?_⟩) | (refine ⟨_, _, Or.inl (hp.go _).weakQ, hK _ _ ?_⟩)); clear hK K)
        | (with_reducible refine lops_nil ?_)
        | (with_reducible first | refine lavc_reg ?_ | refine lavc_seq ?_ | refine lavc_block ?_ | refine lavc_skip ?_ | refine lavc_exit ?_ | refine lavc_ret ?_ | refine lavcR_round ?_)
        | (refine lavc_cond rfl (fun _ => ?_) (fun hc => absurd hc (by decide)))
        | (refine lavc_cond rfl (fun hc => absurd hc (by decide)) (fun _ => ?_))
        | (simp only [↓reduceIte, Nat.reduceEqDiff, reduceCtorEq]))
      refine ⟨m - 1, (k + 1, gg ++ [⟨[ivC i, stA s, nlA, nlA], 0, true, 26⟩, ⟨[ivC i, stA s, nlA, nlA], 0, true, 26⟩]), by omega, by show m - 1 + (k + 1) = n; omega, ?_, (by first | rfl | trivial)⟩
      simp only [ms28_0, putAll, blank, List.foldl_cons, List.foldl_nil, List.set_cons_succ, List.set_cons_zero, List.cons_append, List.nil_append, ALe, true_or, or_true, and_true, true_and, eq_self, reduceCtorEq, false_or]
    · rw [h4] at hp
      repeat (first
        | (with_reducible refine lops_step fun K hK => ?_; simp (disch := first | exact dch | fail) only [go_sem, Nat.reduceAdd, Nat.reduceSub, reduceIte, Nat.reduceEqDiff, Int.reduceToNat, Int.reduceBEq, Int.reduceBNe, h4, hC, e3, get_concat, set_concat, con_con, get_c0, get_c1, set_c1, len_con]; (try (first | (refine And.intro (fun _ => ?_) (fun h => absurd h (by decide))) | (refine And.intro (fun h => absurd h (by decide)) (fun _ => ?_)))); (repeat (with_reducible refine And.intro acl ?_)); (first | (refine hK _ _ ?_) | (refine ⟨_, rfl, hK _ _ ?_⟩) | (refine Or.inl (hK _ _ ?_)) | (refine ⟨_, _, Or.inl (hp.go _), (by first | exact ⟨[], (List.append_nil _).symm⟩ | exact ⟨_, rfl⟩), hK _ _ ?_⟩) | (refine ⟨_, _, Or.inl (hp.go _), hK _ _ ?_⟩) | (refine ⟨_, _, Or.inl (hp.go _).weakQ, hK _ _ ?_⟩)); clear hK K)
        | (with_reducible refine lops_nil ?_)
        | (with_reducible first | refine lavc_reg ?_ | refine lavc_seq ?_ | refine lavc_block ?_ | refine lavc_skip ?_ | refine lavc_exit ?_ | refine lavc_ret ?_ | refine lavcR_round ?_)
        | (refine lavc_cond rfl (fun _ => ?_) (fun hc => absurd hc (by decide)))
        | (refine lavc_cond rfl (fun hc => absurd hc (by decide)) (fun _ => ?_))
        | (simp only [↓reduceIte, Nat.reduceEqDiff, reduceCtorEq]))
      refine ⟨m - 1, (k + 1, gg ++ [⟨[ivC i, stA s, .vsl n1 c1 none, .vsl n2 c2 none], 0, true, 26⟩, ⟨[ivC i, stA s, .vsl n1 c1 none, .vsl n2 c2 none], 0, true, 26⟩]), by omega, by show m - 1 + (k + 1) = n; omega, ?_, (by first | rfl | trivial)⟩
      simp only [ms28_0, putAll, blank, List.foldl_cons, List.foldl_nil, List.set_cons_succ, List.set_cons_zero, List.cons_append, List.nil_append, ALe, true_or, or_true, and_true, true_and, eq_self, reduceCtorEq, false_or]
  · refine gc1 tt tt tt tt ⟨?_⟩
    refine And.intro (by simp) ?_
    simp (disch := first | exact dch | fail) only [go_sem, Nat.reduceAdd, Nat.reduceSub, reduceIte, Nat.reduceEqDiff, Int.reduceToNat, Int.reduceBEq, Int.reduceBNe, aret, aretL, aret1, aenv]
    (repeat (with_reducible refine And.intro acl ?_))
    exact end0 (NR.v _) rfl
theorem sameR_p (i : Int) (s : ByteArray) (l : List ByteArray) (hl : l.length ≤ 1000) (n : Nat) (C : List AV) (hC : C.length = n * 4) (hnr : ∀ x ∈ C, NR x) (hn : n ≤ 1000)
    (hk : ∀ k, k < n → Cel4 ((C.drop (k * 4)).take 4) ∧ PCall Tryd.prog glob 15 [.agg ((C.drop (k * 4)).take 4), .agg ((C.drop (k * 4)).take 4)] (.v (.bool true))) :
    PCall Tryd.prog glob 15 [.agg [ivC i, stA s, .vsl l.length (strs l) none, .vsl n C none], .agg [ivC i, stA s, .vsl l.length (strs l) none, .vsl n C none]] (.v (.bool true)) := by
  have hnv : NR (.agg [ivC i, stA s, .vsl l.length (strs l) none, .vsl n C none]) := NR.agg (by
    intro x hx
    simp only [List.mem_cons, List.not_mem_nil, or_false] at hx
    rcases hx with rfl | rfl | rfl | rfl
    · exact NR.v _
    · exact NR.v _
    · exact NR.vsl (NR.strs _)
    · exact NR.vsl hnr)
  refine PCall.of ctx.nr (List.forall_mem_cons.2 ⟨hnv, List.forall_mem_cons.2 ⟨hnv, fun _ h => absurd h List.not_mem_nil⟩⟩) (NR.v _) ?_
  refine lcall15 (by simp) 0 (Nat.le_refl _) ?_
  unfold lc15
  simp only [List.length_cons, List.length_nil, Nat.reduceAdd, Nat.reduceSub, List.replicate_succ, List.replicate_zero, List.cons_append, List.nil_append]
  have ep := fun c d => equalR_p l c d (by omega)
  have fp := fun c d => eqfR_p n C c d hC hnr hn hk
  have q := bne_self s
  have q2 : (i == i) = true := by simp
  refine gc1 (an q (an q2 tt)) tt (an (fun u v => (ep u v).go) (an (fun u v => (fp u v).go) tt)) tt ⟨?_⟩
  refine And.intro (by simp) ?_
  simp (disch := first | exact dch | fail) only [go_sem, Nat.reduceAdd, Nat.reduceSub, reduceIte, Nat.reduceEqDiff, Int.reduceToNat, Int.reduceBEq, Int.reduceBNe, aret, aretL, aret1, aenv]
  (repeat (with_reducible refine And.intro acl ?_))
  exact end0 (NR.v _) rfl
theorem sameZ_p (i : Int) (s : ByteArray) : PCall Tryd.prog glob 15 [.agg [ivC i, stA s, nlA, nlA], .agg [ivC i, stA s, nlA, nlA]] (.v (.bool true)) := by
  have hnv : NR (.agg [ivC i, stA s, nlA, nlA]) := NR.agg (by
    intro x hx
    simp only [List.mem_cons, List.not_mem_nil, or_false] at hx
    rcases hx with rfl | rfl | rfl | rfl <;> exact NR.v _)
  refine PCall.of ctx.nr (List.forall_mem_cons.2 ⟨hnv, List.forall_mem_cons.2 ⟨hnv, fun _ h => absurd h List.not_mem_nil⟩⟩) (NR.v _) ?_
  refine lcall15 (by simp) 0 (Nat.le_refl _) ?_
  unfold lc15
  simp only [List.length_cons, List.length_nil, Nat.reduceAdd, Nat.reduceSub, List.replicate_succ, List.replicate_zero, List.cons_append, List.nil_append]
  have ep : PCall Tryd.prog glob 27 [.v (.slice none 0 0), .v (.slice none 0 0)] (.v (.bool true)) := (equalR_p [] none none (by decide)).les (args := [.v (.slice none 0 0), .v (.slice none 0 0)]) ⟨AvLe.nil, AvLe.nil, trivial⟩
  have fp : PCall Tryd.prog glob 28 [.v (.slice none 0 0), .v (.slice none 0 0), SameF] (.v (.bool true)) := (eqfR_p 0 [] none none rfl (fun _ h => absurd h List.not_mem_nil) (by decide) (fun k h => absurd h (Nat.not_lt_zero _))).les (args := [.v (.slice none 0 0), .v (.slice none 0 0), SameF]) ⟨AvLe.nil, AvLe.nil, AvLe.refl _, trivial⟩
  have q := bne_self s
  have q2 : (i == i) = true := by simp
  refine gc1 (an q (an q2 tt)) (an ep.go (an fp.go tt)) tt tt ⟨?_⟩
  refine And.intro (by simp) ?_
  simp (disch := first | exact dch | fail) only [go_sem, Nat.reduceAdd, Nat.reduceSub, reduceIte, Nat.reduceEqDiff, Int.reduceToNat, Int.reduceBEq, Int.reduceBNe, aret, aretL, aret1, aenv]
  (repeat (with_reducible refine And.intro acl ?_))
  exact end0 (NR.v _) rfl
theorem samePg_p (N X : List ByteArray) (hX : X.length = N.length) (hl : N.length ≤ 1000) : PCall Tryd.prog glob 15 [pageA N X, pageA N X] (.v (.bool true)) := by
  refine sameR_p 6 ⟨#[]⟩ N hl N.length (vals X) (by rw [vals_length, hX]) (NR.valsX _) hl (fun k hk => ?_)
  rw [vals_at X k (by omega)]
  exact ⟨⟨4, _, .inl rfl⟩, sameZ_p 4 _⟩
end Go.Abs.S
namespace Go.Abs.S
attribute [local go_sem] lguard aopO aop nxL aenv toAV tput aLoad aStore vcells aBin aNilI aUn aAlloc aBox aBuild aBSlice afill aConv isIntT aappZ aCap aArr aMM aMake aSlice bnd3 bnd aFldAddr aFld aIdxAddr aIdx aExt aLen aCopy aEq0 bAV aUb aapp aappQ agh acont List.getD_cons_zero List.getD_cons_succ List.set_cons_zero List.set_cons_succ List.getElem?_cons_zero List.getElem?_cons_succ List.length_cons List.length_nil List.map_cons List.map_nil ints_length if_true if_false Bool.false_eq_true true_and and_true eq_self ne_eq not_false_eq_true not_true_eq_false beq_self_eq_true Nat.zero_add Nat.add_zero Nat.mul_one Nat.zero_mul Int.toNat_natCast List.toList_toArray List.all_cons List.all_nil AV.one Value.oneCell' Bool.and_true Bool.true_and forall_const true_implies false_implies implies_true Option.map_some Option.map_none Option.isSome_some Option.isSome_none imp_self rdP_flat rdP_row splice_one ints_set ints_get List.append_nil List.cons_append List.nil_append List.getElem?_toArray List.drop_zero ints_drop ints_take List.take_of_length_le splice_all ints_one Option.some.injEq Option.getD_some List.length_replicate zArr List.map_replicate rep_ints splice_intsR List.length_set List.length_append List.flatten_replicate_singleton rep_slice rep_string rep_bool rep_iface List.replicate_zero if_pos if_neg List.mapM_cons List.mapM_nil Option.pure_def Option.bind_eq_bind Option.bind_some Bool.true_eq_false Bool.not_false Bool.not_true get_concat set_concat
open Go.Proofs
open Go.Abs.H
open Go.Proofs.YtgmchiadphdlhaaDoor.Chk
set_option linter.unusedVariables false
set_option linter.unusedSimpArgs false
set_option maxRecDepth 100000
set_option maxHeartbeats 4000000
theorem pick8 (i a x y : ByteArray) (more : List ByteArray) (d : Nat) : ∃ N, pick (mk8 i a x y ++ more) d (List.range (parts (mk8 i a x y ++ more).length)) = pick (mk8 i a x y ++ more) d [0, 1, 2, 3] ++ N := by
  have hl : (mk8 i a x y ++ more).length = 8 + more.length := by rw [List.length_append]; rfl
  rw [hl]
  obtain ⟨k, hk⟩ : ∃ k, parts (8 + more.length) = 4 + k := ⟨parts (8 + more.length) - 4, by unfold parts; omega⟩
  rw [hk, List.range_add]
  unfold pick
  rw [List.filterMap_append]
  exact ⟨_, rfl⟩
theorem nmsM (i a x y : ByteArray) (more : List ByteArray) : ∃ N, nms (mk8 i a x y ++ more) = issB :: audB :: nbfB :: expB :: N := by
  obtain ⟨N, hN⟩ := pick8 i a x y more 0
  have hl : (mk8 i a x y ++ more).length = 8 + more.length := by rw [List.length_append]; rfl
  refine ⟨N, ?_⟩
  unfold nms
  rw [hN]
  unfold pick
  simp only [List.filterMap_cons, List.filterMap_nil, hl]
  rw [if_pos (by omega), if_pos (by omega), if_pos (by omega), if_pos (by omega)]
  rfl
theorem txsM (i a x y : ByteArray) (more : List ByteArray) : ∃ X, txs (mk8 i a x y ++ more) = i :: a :: x :: y :: X := by
  obtain ⟨N, hN⟩ := pick8 i a x y more 1
  have hl : (mk8 i a x y ++ more).length = 8 + more.length := by rw [List.length_append]; rfl
  refine ⟨N, ?_⟩
  unfold txs
  rw [hN]
  unfold pick
  simp only [List.filterMap_cons, List.filterMap_nil, hl]
  rw [if_pos (by omega), if_pos (by omega), if_pos (by omega), if_pos (by omega)]
  rfl
theorem txP_iss (i a x y : ByteArray) (N X : List ByteArray) : txP (issB :: audB :: nbfB :: expB :: N) (i :: a :: x :: y :: X) issB = (i, true) := by
  have h : idxK (issB :: audB :: nbfB :: expB :: N) issB 0 = 0 := if_pos rfl
  unfold txP
  rw [h]
  rfl
theorem txP_aud (i a x y : ByteArray) (N X : List ByteArray) : txP (issB :: audB :: nbfB :: expB :: N) (i :: a :: x :: y :: X) audB = (a, true) := by
  have h : idxK (issB :: audB :: nbfB :: expB :: N) audB 0 = 1 := by
    rw [idxK, if_neg (by decide), idxK, if_pos rfl]
    rfl
  unfold txP
  rw [h]
  rfl
theorem txP_nbf (i a x y : ByteArray) (N X : List ByteArray) : txP (issB :: audB :: nbfB :: expB :: N) (i :: a :: x :: y :: X) nbfB = (x, true) := by
  have h : idxK (issB :: audB :: nbfB :: expB :: N) nbfB 0 = 2 := by
    rw [idxK, if_neg (by decide), idxK, if_neg (by decide), idxK, if_pos rfl]
    rfl
  unfold txP
  rw [h]
  rfl
theorem txP_exp (i a x y : ByteArray) (N X : List ByteArray) : txP (issB :: audB :: nbfB :: expB :: N) (i :: a :: x :: y :: X) expB = (y, true) := by
  have h : idxK (issB :: audB :: nbfB :: expB :: N) expB 0 = 3 := by
    rw [idxK, if_neg (by decide), idxK, if_neg (by decide), idxK, if_neg (by decide), idxK, if_pos rfl]
    rfl
  unfold txP
  rw [h]
  rfl
theorem chk_usual (i a x y : ByteArray) (N X : List ByteArray) (n m now : Int) (hx : readP x = (n, 0)) (hy : readP y = (m, 0)) :
    chkAll (txP (issB :: audB :: nbfB :: expB :: N) (i :: a :: x :: y :: X)) now (usualP i a) = if now < n then 13 else if m ≤ now then 14 else 0 := by
  unfold usualP
  rw [chkAll_cons, chk1 _ _ _ _ _ (txP_iss i a x y N X), if_pos rfl, if_pos rfl, chkAll_cons, chk1 _ _ _ _ _ (txP_aud i a x y N X), if_pos rfl, if_pos rfl, chkAll_cons, chk3 _ _ _ _ _ _ (txP_nbf i a x y N X) hx]
  by_cases h : now < n
  · rw [if_pos h, if_pos h, if_neg (by decide)]
  · rw [if_neg h, if_neg h, if_pos rfl, chkAll_cons, chk4 _ _ _ _ _ _ (txP_exp i a x y N X) hy]
    by_cases h2 : m ≤ now
    · rw [if_pos h2, if_neg (by decide)]
    · rw [if_neg h2, if_pos rfl]
      rfl
theorem chk_other (i j a x y : ByteArray) (N X : List ByteArray) (now : Int) (h : i ≠ j) :
    chkAll (txP (issB :: audB :: nbfB :: expB :: N) (i :: a :: x :: y :: X)) now (usualP j a) = 15 := by
  unfold usualP
  rw [chkAll_cons, chk1 _ _ _ _ _ (txP_iss i a x y N X), if_neg h, if_neg (by decide)]
theorem rules_small (i a x y j : ByteArray) (N X : List ByteArray) (hx : x.size = 20) (hy : y.size = 20) : ∀ r ∈ usualP j a, r.1 ≠ 1 → r.1 ≠ 2 → (txP (issB :: audB :: nbfB :: expB :: N) (i :: a :: x :: y :: X) r.2.1).1.size ≤ 1000000 := by
  intro r hr h1 h2
  simp only [usualP, List.mem_cons, List.not_mem_nil, or_false] at hr
  rcases hr with rfl | rfl | rfl | rfl
  · exact absurd rfl h1
  · exact absurd rfl h1
  · rw [txP_nbf, hx]; decide
  · rw [txP_exp, hy]; decide
abbrev xB : ByteArray := ⟨#[120]⟩
abbrev madeS (i a : ByteArray) (n m : Int) (more : List ByteArray) : AV := .agg [stA i, stA a, ivC n, ivC m, .vsl more.length (strs more) none]
theorem makes_nr (i a : ByteArray) (n m : Int) (more : List ByteArray) (now : Int) : ∀ x ∈ [madeS i a n m more, ivC now], NR x := by
  intro x hx
  simp only [List.mem_cons, List.not_mem_nil, or_false] at hx
  rcases hx with rfl | rfl
  · refine NR.agg ?_
    intro x hx
    simp only [List.mem_cons, List.not_mem_nil, or_false] at hx
    rcases hx with rfl | rfl | rfl | rfl | rfl
    · exact NR.v _
    · exact NR.v _
    · exact NR.v _
    · exact NR.v _
    · exact NR.vsl (NR.strs _)
  · exact NR.v _
theorem makes_few (i a : ByteArray) (n m : Int) (more : List ByteArray) (now : Int) (h : 60 < i.size ∨ 60 < a.size ∨ 20 < more.length) : PCall Tryd.prog glob 5 [madeS i a n m more, ivC now] (.v (.bool true)) := by
  refine PCall.of ctx.nr (makes_nr i a n m more now) (NR.v _) ?_
  refine lcall5 (by simp) 0 (Nat.le_refl _) ?_
  unfold lc5
  simp only [List.length_cons, List.length_nil, Nat.reduceAdd, Nat.reduceSub, List.replicate_succ, List.replicate_zero, List.cons_append, List.nil_append]
  have aw := awake_p
  by_cases h1 : 60 < i.size
  · have d1 : decide ((i.size : Int) > 60) = true := by rw [decide_eq_true_eq]; omega
    refine gc1 (an d1 tt) (an aw.go tt) tt tt ⟨?_⟩
    refine And.intro (by simp) ?_
    simp (disch := first | exact dch | fail) only [go_sem, Nat.reduceAdd, Nat.reduceSub, reduceIte, Nat.reduceEqDiff, Int.reduceToNat, Int.reduceBEq, Int.reduceBNe, aret, aretL, aret1, aenv]
    (repeat (with_reducible refine And.intro acl ?_))
    exact end0 (NR.v _) rfl
  have d1 : decide ((i.size : Int) > 60) = false := by rw [decide_eq_false_iff_not]; omega
  by_cases h2 : 60 < a.size
  · have d2 : decide ((a.size : Int) > 60) = true := by rw [decide_eq_true_eq]; omega
    refine gc1 (an d1 (an d2 tt)) (an aw.go tt) tt tt ⟨?_⟩
    refine And.intro (by simp) ?_
    simp (disch := first | exact dch | fail) only [go_sem, Nat.reduceAdd, Nat.reduceSub, reduceIte, Nat.reduceEqDiff, Int.reduceToNat, Int.reduceBEq, Int.reduceBNe, aret, aretL, aret1, aenv]
    (repeat (with_reducible refine And.intro acl ?_))
    exact end0 (NR.v _) rfl
  have d2 : decide ((a.size : Int) > 60) = false := by rw [decide_eq_false_iff_not]; omega
  have d3 : decide ((more.length : Int) > 20) = true := by rw [decide_eq_true_eq]; omega
  refine gc1 (an d1 (an d2 (an d3 tt))) (an aw.go tt) tt tt ⟨?_⟩
  refine And.intro (by simp) ?_
  simp (disch := first | exact dch | fail) only [go_sem, Nat.reduceAdd, Nat.reduceSub, reduceIte, Nat.reduceEqDiff, Int.reduceToNat, Int.reduceBEq, Int.reduceBNe, aret, aretL, aret1, aenv]
  (repeat (with_reducible refine And.intro acl ?_))
  exact end0 (NR.v _) rfl
theorem makes_bad1 (i a : ByteArray) (n m : Int) (more : List ByteArray) (now : Int) (h1 : ¬ 60 < i.size) (h2 : ¬ 60 < a.size) (h3 : ¬ 20 < more.length) (hn : ¬ (tFirst ≤ n ∧ n ≤ tLast)) :
    PCall Tryd.prog glob 5 [madeS i a n m more, ivC now] (.v (.bool true)) := by
  refine PCall.of ctx.nr (makes_nr i a n m more now) (NR.v _) ?_
  refine lcall5 (by simp) 0 (Nat.le_refl _) ?_
  unfold lc5
  simp only [List.length_cons, List.length_nil, Nat.reduceAdd, Nat.reduceSub, List.replicate_succ, List.replicate_zero, List.cons_append, List.nil_append]
  have aw := awake_p
  have fp := First_p
  have lp := Last_p
  have sz := sameZ_p 0 ⟨#[]⟩
  have d1 : decide ((i.size : Int) > 60) = false := by rw [decide_eq_false_iff_not]; omega
  have d2 : decide ((a.size : Int) > 60) = false := by rw [decide_eq_false_iff_not]; omega
  have d3 : decide ((more.length : Int) > 20) = false := by rw [decide_eq_false_iff_not]; omega
  have mb := fun c => Make_bad1 i a n m hn more c
  refine gc1 (an d1 (an d2 (an d3 tt))) (an aw.go tt) (an (fun u => (mb u).go) tt) tt ⟨?_⟩
  have g0 : (((List.replicate 2 (0 : Int)).set 0 n).set 1 m).getD 0 0 = n := rfl
  have g1 : (((List.replicate 2 (0 : Int)).set 0 n).set 1 m).getD 1 0 = m := rfl
  have g2 : (ints IntKind.i64 (((List.replicate 2 (0 : Int)).set 0 n).set 1 m)).getD 1 .any = ivC m := rfl
  have w1 : IntKind.i64.wrap (0 + 1) = 1 := by decide
  have w2 : IntKind.i64.wrap (1 + 1) = 2 := by decide
  refine lavc_rounds 2 ?_
  by_cases c1 : n < tFirst
  · have d4 : decide (n < tFirst) = true := by rw [decide_eq_true_eq]; omega
    refine gc1 (an d4 (an g0 (an g1 (an g2 (an w1 (an w2 tt)))))) (an fp.go (an lp.go (an sz.go tt))) tt tt ⟨?_⟩
    refine And.intro (by simp) ?_
    simp (disch := first | exact dch | fail) only [go_sem, Nat.reduceAdd, Nat.reduceSub, reduceIte, Nat.reduceEqDiff, Int.reduceToNat, Int.reduceBEq, Int.reduceBNe, aret, aretL, aret1, aenv]
    (repeat (with_reducible refine And.intro acl ?_))
    exact end0 (NR.v _) rfl
  · have d4 : decide (n < tFirst) = false := by rw [decide_eq_false_iff_not]; omega
    have d5 : decide (n > tLast) = true := by rw [decide_eq_true_eq]; omega
    refine gc1 (an d4 (an d5 (an g0 (an g1 (an g2 (an w1 (an w2 tt))))))) (an fp.go (an lp.go (an sz.go tt))) tt tt ⟨?_⟩
    refine And.intro (by simp) ?_
    simp (disch := first | exact dch | fail) only [go_sem, Nat.reduceAdd, Nat.reduceSub, reduceIte, Nat.reduceEqDiff, Int.reduceToNat, Int.reduceBEq, Int.reduceBNe, aret, aretL, aret1, aenv]
    (repeat (with_reducible refine And.intro acl ?_))
    exact end0 (NR.v _) rfl
theorem makes_bad2 (i a : ByteArray) (t : Mom) (ht : t.ok) (m : Int) (more : List ByteArray) (now : Int) (h1 : ¬ 60 < i.size) (h2 : ¬ 60 < a.size) (h3 : ¬ 20 < more.length) (hm : ¬ (tFirst ≤ m ∧ m ≤ tLast)) :
    PCall Tryd.prog glob 5 [madeS i a (secs t) m more, ivC now] (.v (.bool true)) := by
  refine PCall.of ctx.nr (makes_nr i a _ m more now) (NR.v _) ?_
  refine lcall5 (by simp) 0 (Nat.le_refl _) ?_
  unfold lc5
  simp only [List.length_cons, List.length_nil, Nat.reduceAdd, Nat.reduceSub, List.replicate_succ, List.replicate_zero, List.cons_append, List.nil_append]
  have aw := awake_p
  have fp := First_p
  have lp := Last_p
  have sz := sameZ_p 0 ⟨#[]⟩
  have d1 : decide ((i.size : Int) > 60) = false := by rw [decide_eq_false_iff_not]; omega
  have d2 : decide ((a.size : Int) > 60) = false := by rw [decide_eq_false_iff_not]; omega
  have d3 : decide ((more.length : Int) > 20) = false := by rw [decide_eq_false_iff_not]; omega
  have mb := fun c => Make_bad2 i a t ht m hm more c
  have hin := secs_in ht
  obtain ⟨n, hn⟩ : ∃ n, secs t = n := ⟨_, rfl⟩
  rw [hn] at mb hin ⊢
  have d6 : decide (n < tFirst) = false := by rw [decide_eq_false_iff_not]; omega
  have d7 : decide (n > tLast) = false := by rw [decide_eq_false_iff_not]; omega
  refine gc1 (an d1 (an d2 (an d3 tt))) (an aw.go tt) (an (fun u => (mb u).go) tt) tt ⟨?_⟩
  have g0 : (((List.replicate 2 (0 : Int)).set 0 n).set 1 m).getD 0 0 = n := rfl
  have g1 : (((List.replicate 2 (0 : Int)).set 0 n).set 1 m).getD 1 0 = m := rfl
  have g2 : (ints IntKind.i64 (((List.replicate 2 (0 : Int)).set 0 n).set 1 m)).getD 1 .any = ivC m := rfl
  have w1 : IntKind.i64.wrap (0 + 1) = 1 := by decide
  have w2 : IntKind.i64.wrap (1 + 1) = 2 := by decide
  refine lavc_rounds 3 ?_
  by_cases c1 : m < tFirst
  · have d4 : decide (m < tFirst) = true := by rw [decide_eq_true_eq]; omega
    refine gc1 (an d6 (an d7 (an d4 (an g0 (an g1 (an g2 (an w1 (an w2 tt)))))))) (an fp.go (an lp.go (an sz.go tt))) tt tt ⟨?_⟩
    refine And.intro (by simp) ?_
    simp (disch := first | exact dch | fail) only [go_sem, Nat.reduceAdd, Nat.reduceSub, reduceIte, Nat.reduceEqDiff, Int.reduceToNat, Int.reduceBEq, Int.reduceBNe, aret, aretL, aret1, aenv]
    (repeat (with_reducible refine And.intro acl ?_))
    exact end0 (NR.v _) rfl
  · have d4 : decide (m < tFirst) = false := by rw [decide_eq_false_iff_not]; omega
    have d5 : decide (m > tLast) = true := by rw [decide_eq_true_eq]; omega
    refine gc1 (an d6 (an d7 (an d4 (an d5 (an g0 (an g1 (an g2 (an w1 (an w2 tt))))))))) (an fp.go (an lp.go (an sz.go tt))) tt tt ⟨?_⟩
    refine And.intro (by simp) ?_
    simp (disch := first | exact dch | fail) only [go_sem, Nat.reduceAdd, Nat.reduceSub, reduceIte, Nat.reduceEqDiff, Int.reduceToNat, Int.reduceBEq, Int.reduceBNe, aret, aretL, aret1, aenv]
    (repeat (with_reducible refine And.intro acl ?_))
    exact end0 (NR.v _) rfl
theorem makes_ok (i a : ByteArray) (t u : Mom) (ht : t.ok) (hu : u.ok) (more : List ByteArray) (now : Int) (h1 : ¬ 60 < i.size) (h2 : ¬ 60 < a.size) (h3 : ¬ 20 < more.length) (hs : ∀ s ∈ more, s.size ≤ 9223372036854775807) :
    PCall Tryd.prog glob 5 [madeS i a (secs t) (secs u) more, ivC now] (.v (.bool true)) := by
  refine PCall.of ctx.nr (makes_nr i a _ _ more now) (NR.v _) ?_
  refine lcall5 (by simp) 0 (Nat.le_refl _) ?_
  have aw := awake_p
  have fp := First_p
  have lp := Last_p
  have sz := sameZ_p 0 ⟨#[]⟩
  have d1 : decide ((i.size : Int) > 60) = false := by rw [decide_eq_false_iff_not]; omega
  have d2 : decide ((a.size : Int) > 60) = false := by rw [decide_eq_false_iff_not]; omega
  have d3 : decide ((more.length : Int) > 20) = false := by rw [decide_eq_false_iff_not]; omega
  have mk := Make_p i a t u ht hu more none (by omega) (by omega) (by omega) hs
  have tp := Text_p t ht
  have up := Text_p u hu
  have rt := read_txt t ht
  have ru := read_txt u hu
  have it := secs_in ht
  have iu := secs_in hu
  have zt : (strOf (txt t)).size = 20 := by rw [str_size, txt_length]
  have zu : (strOf (txt u)).size = 20 := by rw [str_size, txt_length]
  obtain ⟨x, hx⟩ : ∃ x, strOf (txt t) = x := ⟨_, rfl⟩
  obtain ⟨y, hy⟩ : ∃ y, strOf (txt u) = y := ⟨_, rfl⟩
  rw [hx] at tp rt zt mk
  rw [hy] at up ru zu mk
  obtain ⟨n, hn⟩ : ∃ n, secs t = n := ⟨_, rfl⟩
  obtain ⟨m, hm⟩ : ∃ n, secs u = n := ⟨_, rfl⟩
  rw [hn] at tp rt it mk ⊢
  rw [hm] at up ru iu mk ⊢
  have d4 : decide (n < tFirst) = false := by rw [decide_eq_false_iff_not]; omega
  have d5 : decide (n > tLast) = false := by rw [decide_eq_false_iff_not]; omega
  have d6 : decide (m < tFirst) = false := by rw [decide_eq_false_iff_not]; omega
  have d7 : decide (m > tLast) = false := by rw [decide_eq_false_iff_not]; omega
  have g0 : (((List.replicate 2 (0 : Int)).set 0 n).set 1 m).getD 0 0 = n := rfl
  have g1 : (((List.replicate 2 (0 : Int)).set 0 n).set 1 m).getD 1 0 = m := rfl
  have g2 : (ints IntKind.i64 (((List.replicate 2 (0 : Int)).set 0 n).set 1 m)).getD 1 .any = ivC m := rfl
  have w1 : IntKind.i64.wrap (0 + 1) = 1 := by decide
  have w2 : IntKind.i64.wrap (1 + 1) = 2 := by decide
  have hall : ∀ s ∈ mk8 i a x y ++ more, s.size ≤ 9223372036854775807 := by
    intro s h
    rw [List.mem_append] at h
    rcases h with h | h
    · simp only [mk8, List.mem_cons, List.not_mem_nil, or_false] at h
      rcases h with rfl | rfl | rfl | rfl | rfl | rfl | rfl | rfl
      all_goals first | assumption | omega | decide
    · exact hs s h
  have hT : (mk8 i a x y ++ more).length = 8 + more.length := by rw [List.length_append]; rfl
  have hT3 : strs (mk8 i a x y ++ more) = [stA issB, stA i, stA audB, stA a, stA nbfB, stA x, stA expB, stA y] ++ strs more := by rw [← strs_append]; rfl
  obtain ⟨N, hN⟩ := nmsM i a x y more
  obtain ⟨X, hX⟩ := txsM i a x y more
  obtain ⟨T, hT2⟩ : ∃ T, mk8 i a x y ++ more = T := ⟨_, rfl⟩
  rw [hT2] at hT hT3 hall mk hN hX
  have po := fun c => pageOf_p T c (by omega)
  have hlen : (nms T).length ≤ 1000 := by
    refine Nat.le_trans (Nat.le_trans (pick_le T 0 _) ?_) (show T.length ≤ 1000 by omega)
    rw [List.length_range]
    unfold parts
    omega
  have hz1 := fun s h => hall s (nms_mem T s h)
  have hz2 := fun s h => hall s (txs_mem T s h)
  have gp := Good_p (nms T) (txs T) (txs_len T) hlen hz1 hz2
  have sm := samePg_p (nms T) (txs T) (txs_len T) hlen
  have us := Usual_p i a
  have us2 := Usual_p (i ++ xB) a
  have hne : i ≠ i ++ xB := fun h => by
    have := congrArg ByteArray.size h
    rw [ByteArray.size_append] at this
    have h1 : xB.size = 1 := rfl
    omega
  have ck : PCall Tryd.prog glob 8 [pageA (nms T) (txs T), ivC now, .vsl 4 (rulesA (usualP i a)) (some 4)] (ivC (chkPg (nms T) (txs T) now (usualP i a))) :=
    CheckT_p (nms T) (txs T) (txs_len T) hlen hz1 hz2 now (usualP i a) (show 4 ≤ 1000 by decide) (by rw [hN, hX]; exact rules_small i a x y i N X zt zu) (some 4)
  have ck2 : PCall Tryd.prog glob 8 [pageA (nms T) (txs T), ivC n, .vsl 4 (rulesA (usualP (i ++ xB) a)) (some 4)] (ivC (chkPg (nms T) (txs T) n (usualP (i ++ xB) a))) :=
    CheckT_p (nms T) (txs T) (txs_len T) hlen hz1 hz2 n (usualP (i ++ xB) a) (show 4 ≤ 1000 by decide) (by rw [hN, hX]; exact rules_small i a x y _ N X zt zu) (some 4)
  unfold madeA at mk
  unfold chkPg at ck ck2
  obtain ⟨g, hg⟩ : ∃ g, goodPg (nms T) (txs T) = g := ⟨_, rfl⟩
  rw [hg] at gp mk ck ck2
  obtain ⟨SM, hSM⟩ : ∃ S, strs more = S := ⟨_, rfl⟩
  have lm := strs_length more
  have om := strs_one more
  have nm := NR.strs more
  rw [hSM] at lm om hT3 nm
  unfold madeS
  unfold pageA at po gp sm ck ck2 mk
  unfold lc5
  simp only [List.length_cons, List.length_nil, Nat.reduceAdd, Nat.reduceSub, List.replicate_succ, List.replicate_zero, List.cons_append, List.nil_append]
  rw [hSM] at mk ⊢
  have zx : (#[120] : Array UInt8).size = 1 := rfl
  have hfz : ∀ b k, SM.map (fzS b k) = SM := fun b k => by
    rw [← hSM]
    simp [strs, fzS]
  have po : ∀ c, PCall Tryd.prog glob 10 [.vsl T.length (stA issB :: stA i :: stA audB :: stA a :: stA nbfB :: stA x :: stA expB :: stA y :: SM) c] (.agg [ivC 6, stA ⟨#[]⟩, .vsl (nms T).length (strs (nms T)) none, .vsl (nms T).length (vals (txs T)) none]) := fun c => by
    have := po c
    rw [hT3] at this
    exact this
  by_cases hg0 : g = 0
  · subst hg0
    rw [if_pos rfl] at mk ck ck2
    rw [hN, hX, chk_usual i a x y N X n m now rt ru] at ck
    rw [hN, hX, chk_other i (i ++ xB) a x y N X n hne] at ck2
    rw [← hN, ← hX] at ck ck2
    rcases Nat.eq_zero_or_pos more.length with hm0 | hm0
    · have hS0 : SM = [] := by rw [← hSM, List.eq_nil_of_length_eq_zero hm0]; rfl
      have hT0 : T.length = 8 := by omega
      rw [hT0, hS0] at po
      refine gc1 (an d1 (an d2 (an d3 tt))) (an aw.go (an mk.go tt)) tt tt ⟨?_⟩
      refine lavc_rounds 3 ?_
      repeat (first
        | (with_reducible refine lops_step fun K hK => ?_; simp (disch := first | exact dch | fail) only [go_sem, Nat.reduceAdd, Nat.reduceSub, reduceIte, Nat.reduceEqDiff, Int.reduceToNat, Int.reduceBEq, Int.reduceBNe, d4, d5, d6, d7, g0, g1, g2, w1, w2, lm, om, List.replicate_succ, List.replicate_zero, List.flatten_cons, List.flatten_nil, List.cons_append, List.nil_append, hm0]; (try (first | (refine And.intro (fun _ => ?_) (fun h => absurd h (by decide))) | (refine And.intro (fun h => absurd h (by decide)) (fun _ => ?_)))); (repeat (with_reducible refine And.intro acl ?_)); (first | (refine hK _ _ ?_) | (refine ⟨_, rfl, hK _ _ ?_⟩) | (refine Or.inl (hK _ _ ?_)) | (refine ⟨_, _, Or.inl (fp.go _), (by first | exact ⟨[], (List.append_nil _).symm⟩ | exact ⟨_, rfl⟩), hK _ _ ?_⟩) | (refine ⟨_, _, Or.inl (fp.go _), hK _ _ ?_⟩) | (refine ⟨_, _, Or.inl (fp.go _).weakQ, hK _ _ ?_⟩) | (refine ⟨_, _, Or.inl (lp.go _), (by first | exact ⟨[], (List.append_nil _).symm⟩ | exact ⟨_, rfl⟩), hK _ _ ?_⟩) | (refine ⟨_, _, Or.inl (lp.go _), hK _ _ ?_⟩) | (refine ⟨_, _, Or.inl (lp.go _).weakQ, hK _ _ ?_⟩) | (refine ⟨_, _, Or.inl (tp.go _), (by first | exact ⟨[], (List.append_nil _).symm⟩ | exact ⟨_, rfl⟩), hK _ _ ?_⟩) | (refine ⟨_, _, Or.inl (tp.go _), hK _ _ ?_⟩) | (refine ⟨_, _, Or.inl (tp.go _).weakQ, hK _ _ ?_⟩) | (refine ⟨_, _, Or.inl (up.go _), (by first | exact ⟨[], (List.append_nil _).symm⟩ | exact ⟨_, rfl⟩), hK _ _ ?_⟩) | (refine ⟨_, _, Or.inl (up.go _), hK _ _ ?_⟩) | (refine ⟨_, _, Or.inl (up.go _).weakQ, hK _ _ ?_⟩) | (refine ⟨_, _, Or.inl ((po _).go _), (by first | exact ⟨[], (List.append_nil _).symm⟩ | exact ⟨_, rfl⟩), hK _ _ ?_⟩) | (refine ⟨_, _, Or.inl ((po _).go _), hK _ _ ?_⟩) | (refine ⟨_, _, Or.inl ((po _).go _).weakQ, hK _ _ ?_⟩)); clear hK K)
        | (with_reducible refine lops_nil ?_)
        | (with_reducible first | refine lavc_reg ?_ | refine lavc_seq ?_ | refine lavc_block ?_ | refine lavc_skip ?_ | refine lavc_exit ?_ | refine lavc_ret ?_ | refine lavcR_round ?_)
        | (refine lavc_cond rfl (fun _ => ?_) (fun hc => absurd hc (by decide)))
        | (refine lavc_cond rfl (fun hc => absurd hc (by decide)) (fun _ => ?_))
        | (simp only [↓reduceIte, Nat.reduceEqDiff, reduceCtorEq]))
      by_cases k1 : now < n
      · have e1 : decide (n ≤ now) = false := by rw [decide_eq_false_iff_not]; omega
        rw [if_pos k1] at ck
        refine gc1 (an e1 tt) (an gp.go (an us.go (an us2.go (an ck.go (an ck2.go (an sm.go tt)))))) tt tt ⟨?_⟩
        refine And.intro (by simp) ?_
        simp (disch := first | exact dch | fail) only [go_sem, Nat.reduceAdd, Nat.reduceSub, reduceIte, Nat.reduceEqDiff, Int.reduceToNat, Int.reduceBEq, Int.reduceBNe, aret, aretL, aret1, aenv]
        (repeat (with_reducible refine And.intro acl ?_))
        exact end0 (NR.v _) rfl
      have e1 : decide (n ≤ now) = true := by rw [decide_eq_true_eq]; omega
      rw [if_neg k1] at ck
      by_cases k2 : m ≤ now
      · have e2 : decide (now < m) = false := by rw [decide_eq_false_iff_not]; omega
        rw [if_pos k2] at ck
        refine gc1 (an e1 (an e2 tt)) (an gp.go (an us.go (an us2.go (an ck.go (an ck2.go (an sm.go tt)))))) tt tt ⟨?_⟩
        refine And.intro (by simp) ?_
        simp (disch := first | exact dch | fail) only [go_sem, Nat.reduceAdd, Nat.reduceSub, reduceIte, Nat.reduceEqDiff, Int.reduceToNat, Int.reduceBEq, Int.reduceBNe, aret, aretL, aret1, aenv]
        (repeat (with_reducible refine And.intro acl ?_))
        exact end0 (NR.v _) rfl
      have e2 : decide (now < m) = true := by rw [decide_eq_true_eq]; omega
      rw [if_neg k2] at ck
      refine gc1 (an e1 (an e2 tt)) (an gp.go (an us.go (an us2.go (an ck.go (an ck2.go (an sm.go tt)))))) tt tt ⟨?_⟩
      refine And.intro (by simp) ?_
      simp (disch := first | exact dch | fail) only [go_sem, Nat.reduceAdd, Nat.reduceSub, reduceIte, Nat.reduceEqDiff, Int.reduceToNat, Int.reduceBEq, Int.reduceBNe, aret, aretL, aret1, aenv]
      (repeat (with_reducible refine And.intro acl ?_))
      exact end0 (NR.v _) rfl
    · refine gc1 (an d1 (an d2 (an d3 tt))) (an aw.go (an mk.go tt)) tt tt ⟨?_⟩
      refine lavc_rounds 3 ?_
      repeat (first
        | (with_reducible refine lops_step fun K hK => ?_; simp (disch := first | exact dch | fail) only [go_sem, Nat.reduceAdd, Nat.reduceSub, reduceIte, Nat.reduceEqDiff, Int.reduceToNat, Int.reduceBEq, Int.reduceBNe, d4, d5, d6, d7, g0, g1, g2, w1, w2, lm, om, List.replicate_succ, List.replicate_zero, List.flatten_cons, List.flatten_nil, List.cons_append, List.nil_append]; (try (first | (refine And.intro (fun _ => ?_) (fun h => absurd h (by decide))) | (refine And.intro (fun h => absurd h (by decide)) (fun _ => ?_)))); (repeat (with_reducible refine And.intro acl ?_)); (first | (refine hK _ _ ?_) | (refine ⟨_, rfl, hK _ _ ?_⟩) | (refine Or.inl (hK _ _ ?_)) | (refine ⟨_, _, Or.inl (fp.go _), (by first | exact ⟨[], (List.append_nil _).symm⟩ | exact ⟨_, rfl⟩), hK _ _ ?_⟩) | (refine ⟨_, _, Or.inl (fp.go _), hK _ _ ?_⟩) | (refine ⟨_, _, Or.inl (fp.go _).weakQ, hK _ _ ?_⟩) | (refine ⟨_, _, Or.inl (lp.go _), (by first | exact ⟨[], (List.append_nil _).symm⟩ | exact ⟨_, rfl⟩), hK _ _ ?_⟩) | (refine ⟨_, _, Or.inl (lp.go _), hK _ _ ?_⟩) | (refine ⟨_, _, Or.inl (lp.go _).weakQ, hK _ _ ?_⟩) | (refine ⟨_, _, Or.inl (tp.go _), (by first | exact ⟨[], (List.append_nil _).symm⟩ | exact ⟨_, rfl⟩), hK _ _ ?_⟩) | (refine ⟨_, _, Or.inl (tp.go _), hK _ _ ?_⟩) | (refine ⟨_, _, Or.inl (tp.go _).weakQ, hK _ _ ?_⟩) | (refine ⟨_, _, Or.inl (up.go _), (by first | exact ⟨[], (List.append_nil _).symm⟩ | exact ⟨_, rfl⟩), hK _ _ ?_⟩) | (refine ⟨_, _, Or.inl (up.go _), hK _ _ ?_⟩) | (refine ⟨_, _, Or.inl (up.go _).weakQ, hK _ _ ?_⟩)); clear hK K)
        | (with_reducible refine lops_nil ?_)
        | (with_reducible first | refine lavc_reg ?_ | refine lavc_seq ?_ | refine lavc_block ?_ | refine lavc_skip ?_ | refine lavc_exit ?_ | refine lavc_ret ?_ | refine lavcR_round ?_)
        | (refine lavc_cond rfl (fun _ => ?_) (fun hc => absurd hc (by decide)))
        | (refine lavc_cond rfl (fun hc => absurd hc (by decide)) (fun _ => ?_))
        | (simp only [↓reduceIte, Nat.reduceEqDiff, reduceCtorEq]))
      refine lops_fz [2] ?_
      simp (disch := first | exact dch | fail) only [afz, fzV, fzS, fz_ints, List.map_cons, List.map_nil, List.getElem?_cons_zero, List.getElem?_cons_succ, List.set_cons_zero, List.set_cons_succ, ints_length, true_and, and_true, and_self, if_true, if_false, ↓reduceIte, Nat.reduceEqDiff, Nat.reduceLeDiff, Nat.reduceMul, Nat.reduceAdd, Nat.zero_add, Nat.mul_one, Nat.le_refl, List.length_replicate, List.drop_zero, ints_drop, ints_take, List.take_of_length_le, false_and, and_false, reduceCtorEq, Bool.false_eq_true, forall_const, if_pos, if_neg, lm, ← hT, hfz]
      (repeat (with_reducible refine And.intro acl ?_))
      intro K hK
      simp (disch := first | exact dch | fail) only [go_sem, Nat.reduceAdd, Nat.reduceSub, reduceIte, Nat.reduceEqDiff, Int.reduceToNat, Int.reduceBEq, Int.reduceBNe, lm, ← hT, hfz]
      refine ⟨_, _, Or.inl ((po _).go _).weakQ, hK _ _ ?_⟩
      clear hK K
      by_cases k1 : now < n
      · have e1 : decide (n ≤ now) = false := by rw [decide_eq_false_iff_not]; omega
        rw [if_pos k1] at ck
        refine gc1 (an e1 tt) (an gp.go (an us.go (an us2.go (an ck.go (an ck2.go (an sm.go tt)))))) tt tt ⟨?_⟩
        refine And.intro (by simp) ?_
        simp (disch := first | exact dch | fail) only [go_sem, Nat.reduceAdd, Nat.reduceSub, reduceIte, Nat.reduceEqDiff, Int.reduceToNat, Int.reduceBEq, Int.reduceBNe, aret, aretL, aret1, aenv]
        (repeat (with_reducible refine And.intro acl ?_))
        exact end0 (NR.v _) rfl
      have e1 : decide (n ≤ now) = true := by rw [decide_eq_true_eq]; omega
      rw [if_neg k1] at ck
      by_cases k2 : m ≤ now
      · have e2 : decide (now < m) = false := by rw [decide_eq_false_iff_not]; omega
        rw [if_pos k2] at ck
        refine gc1 (an e1 (an e2 tt)) (an gp.go (an us.go (an us2.go (an ck.go (an ck2.go (an sm.go tt)))))) tt tt ⟨?_⟩
        refine And.intro (by simp) ?_
        simp (disch := first | exact dch | fail) only [go_sem, Nat.reduceAdd, Nat.reduceSub, reduceIte, Nat.reduceEqDiff, Int.reduceToNat, Int.reduceBEq, Int.reduceBNe, aret, aretL, aret1, aenv]
        (repeat (with_reducible refine And.intro acl ?_))
        exact end0 (NR.v _) rfl
      have e2 : decide (now < m) = true := by rw [decide_eq_true_eq]; omega
      rw [if_neg k2] at ck
      refine gc1 (an e1 (an e2 tt)) (an gp.go (an us.go (an us2.go (an ck.go (an ck2.go (an sm.go tt)))))) tt tt ⟨?_⟩
      refine And.intro (by simp) ?_
      simp (disch := first | exact dch | fail) only [go_sem, Nat.reduceAdd, Nat.reduceSub, reduceIte, Nat.reduceEqDiff, Int.reduceToNat, Int.reduceBEq, Int.reduceBNe, aret, aretL, aret1, aenv]
      (repeat (with_reducible refine And.intro acl ?_))
      exact end0 (NR.v _) rfl
  · rw [if_neg hg0] at mk
    have dg : ((g : Int) != 0) = true := by rw [bne_iff_ne, ne_eq]; omega
    rcases Nat.eq_zero_or_pos more.length with hm0 | hm0
    · have hS0 : SM = [] := by rw [← hSM, List.eq_nil_of_length_eq_zero hm0]; rfl
      have hT0 : T.length = 8 := by omega
      rw [hT0, hS0] at po
      refine gc1 (an d1 (an d2 (an d3 tt))) (an aw.go (an mk.go tt)) tt tt ⟨?_⟩
      refine lavc_rounds 3 ?_
      repeat (first
        | (with_reducible refine lops_step fun K hK => ?_; simp (disch := first | exact dch | fail) only [go_sem, Nat.reduceAdd, Nat.reduceSub, reduceIte, Nat.reduceEqDiff, Int.reduceToNat, Int.reduceBEq, Int.reduceBNe, d4, d5, d6, d7, g0, g1, g2, w1, w2, lm, om, List.replicate_succ, List.replicate_zero, List.flatten_cons, List.flatten_nil, List.cons_append, List.nil_append, hm0]; (try (first | (refine And.intro (fun _ => ?_) (fun h => absurd h (by decide))) | (refine And.intro (fun h => absurd h (by decide)) (fun _ => ?_)))); (repeat (with_reducible refine And.intro acl ?_)); (first | (refine hK _ _ ?_) | (refine ⟨_, rfl, hK _ _ ?_⟩) | (refine Or.inl (hK _ _ ?_)) | (refine ⟨_, _, Or.inl (fp.go _), (by first | exact ⟨[], (List.append_nil _).symm⟩ | exact ⟨_, rfl⟩), hK _ _ ?_⟩) | (refine ⟨_, _, Or.inl (fp.go _), hK _ _ ?_⟩) | (refine ⟨_, _, Or.inl (fp.go _).weakQ, hK _ _ ?_⟩) | (refine ⟨_, _, Or.inl (lp.go _), (by first | exact ⟨[], (List.append_nil _).symm⟩ | exact ⟨_, rfl⟩), hK _ _ ?_⟩) | (refine ⟨_, _, Or.inl (lp.go _), hK _ _ ?_⟩) | (refine ⟨_, _, Or.inl (lp.go _).weakQ, hK _ _ ?_⟩) | (refine ⟨_, _, Or.inl (tp.go _), (by first | exact ⟨[], (List.append_nil _).symm⟩ | exact ⟨_, rfl⟩), hK _ _ ?_⟩) | (refine ⟨_, _, Or.inl (tp.go _), hK _ _ ?_⟩) | (refine ⟨_, _, Or.inl (tp.go _).weakQ, hK _ _ ?_⟩) | (refine ⟨_, _, Or.inl (up.go _), (by first | exact ⟨[], (List.append_nil _).symm⟩ | exact ⟨_, rfl⟩), hK _ _ ?_⟩) | (refine ⟨_, _, Or.inl (up.go _), hK _ _ ?_⟩) | (refine ⟨_, _, Or.inl (up.go _).weakQ, hK _ _ ?_⟩) | (refine ⟨_, _, Or.inl ((po _).go _), (by first | exact ⟨[], (List.append_nil _).symm⟩ | exact ⟨_, rfl⟩), hK _ _ ?_⟩) | (refine ⟨_, _, Or.inl ((po _).go _), hK _ _ ?_⟩) | (refine ⟨_, _, Or.inl ((po _).go _).weakQ, hK _ _ ?_⟩)); clear hK K)
        | (with_reducible refine lops_nil ?_)
        | (with_reducible first | refine lavc_reg ?_ | refine lavc_seq ?_ | refine lavc_block ?_ | refine lavc_skip ?_ | refine lavc_exit ?_ | refine lavc_ret ?_ | refine lavcR_round ?_)
        | (refine lavc_cond rfl (fun _ => ?_) (fun hc => absurd hc (by decide)))
        | (refine lavc_cond rfl (fun hc => absurd hc (by decide)) (fun _ => ?_))
        | (simp only [↓reduceIte, Nat.reduceEqDiff, reduceCtorEq]))
      repeat (first
        | (with_reducible refine lops_step fun K hK => ?_; simp (disch := first | exact dch | fail) only [go_sem, Nat.reduceAdd, Nat.reduceSub, reduceIte, Nat.reduceEqDiff, Int.reduceToNat, Int.reduceBEq, Int.reduceBNe, dg]; (try (first | (refine And.intro (fun _ => ?_) (fun h => absurd h (by decide))) | (refine And.intro (fun h => absurd h (by decide)) (fun _ => ?_)))); (repeat (with_reducible refine And.intro acl ?_)); (first | (refine hK _ _ ?_) | (refine ⟨_, rfl, hK _ _ ?_⟩) | (refine Or.inl (hK _ _ ?_)) | (refine ⟨_, _, Or.inl (gp.go _), (by first | exact ⟨[], (List.append_nil _).symm⟩ | exact ⟨_, rfl⟩), hK _ _ ?_⟩) | (refine ⟨_, _, Or.inl (gp.go _), hK _ _ ?_⟩) | (refine ⟨_, _, Or.inl (gp.go _).weakQ, hK _ _ ?_⟩) | (refine ⟨_, _, Or.inl (sz.go _), (by first | exact ⟨[], (List.append_nil _).symm⟩ | exact ⟨_, rfl⟩), hK _ _ ?_⟩) | (refine ⟨_, _, Or.inl (sz.go _), hK _ _ ?_⟩) | (refine ⟨_, _, Or.inl (sz.go _).weakQ, hK _ _ ?_⟩)); clear hK K)
        | (with_reducible refine lops_nil ?_)
        | (with_reducible first | refine lavc_reg ?_ | refine lavc_seq ?_ | refine lavc_block ?_ | refine lavc_skip ?_ | refine lavc_exit ?_ | refine lavc_ret ?_ | refine lavcR_round ?_)
        | (refine lavc_cond rfl (fun _ => ?_) (fun hc => absurd hc (by decide)))
        | (refine lavc_cond rfl (fun hc => absurd hc (by decide)) (fun _ => ?_))
        | (simp only [↓reduceIte, Nat.reduceEqDiff, reduceCtorEq]))
      refine And.intro (by simp) ?_
      simp (disch := first | exact dch | fail) only [go_sem, Nat.reduceAdd, Nat.reduceSub, reduceIte, Nat.reduceEqDiff, Int.reduceToNat, Int.reduceBEq, Int.reduceBNe, aret, aretL, aret1, aenv]
      (repeat (with_reducible refine And.intro acl ?_))
      exact end0 (NR.v _) rfl
    · refine gc1 (an d1 (an d2 (an d3 tt))) (an aw.go (an mk.go tt)) tt tt ⟨?_⟩
      refine lavc_rounds 3 ?_
      repeat (first
        | (with_reducible refine lops_step fun K hK => ?_; simp (disch := first | exact dch | fail) only [go_sem, Nat.reduceAdd, Nat.reduceSub, reduceIte, Nat.reduceEqDiff, Int.reduceToNat, Int.reduceBEq, Int.reduceBNe, d4, d5, d6, d7, g0, g1, g2, w1, w2, lm, om, List.replicate_succ, List.replicate_zero, List.flatten_cons, List.flatten_nil, List.cons_append, List.nil_append]; (try (first | (refine And.intro (fun _ => ?_) (fun h => absurd h (by decide))) | (refine And.intro (fun h => absurd h (by decide)) (fun _ => ?_)))); (repeat (with_reducible refine And.intro acl ?_)); (first | (refine hK _ _ ?_) | (refine ⟨_, rfl, hK _ _ ?_⟩) | (refine Or.inl (hK _ _ ?_)) | (refine ⟨_, _, Or.inl (fp.go _), (by first | exact ⟨[], (List.append_nil _).symm⟩ | exact ⟨_, rfl⟩), hK _ _ ?_⟩) | (refine ⟨_, _, Or.inl (fp.go _), hK _ _ ?_⟩) | (refine ⟨_, _, Or.inl (fp.go _).weakQ, hK _ _ ?_⟩) | (refine ⟨_, _, Or.inl (lp.go _), (by first | exact ⟨[], (List.append_nil _).symm⟩ | exact ⟨_, rfl⟩), hK _ _ ?_⟩) | (refine ⟨_, _, Or.inl (lp.go _), hK _ _ ?_⟩) | (refine ⟨_, _, Or.inl (lp.go _).weakQ, hK _ _ ?_⟩) | (refine ⟨_, _, Or.inl (tp.go _), (by first | exact ⟨[], (List.append_nil _).symm⟩ | exact ⟨_, rfl⟩), hK _ _ ?_⟩) | (refine ⟨_, _, Or.inl (tp.go _), hK _ _ ?_⟩) | (refine ⟨_, _, Or.inl (tp.go _).weakQ, hK _ _ ?_⟩) | (refine ⟨_, _, Or.inl (up.go _), (by first | exact ⟨[], (List.append_nil _).symm⟩ | exact ⟨_, rfl⟩), hK _ _ ?_⟩) | (refine ⟨_, _, Or.inl (up.go _), hK _ _ ?_⟩) | (refine ⟨_, _, Or.inl (up.go _).weakQ, hK _ _ ?_⟩)); clear hK K)
        | (with_reducible refine lops_nil ?_)
        | (with_reducible first | refine lavc_reg ?_ | refine lavc_seq ?_ | refine lavc_block ?_ | refine lavc_skip ?_ | refine lavc_exit ?_ | refine lavc_ret ?_ | refine lavcR_round ?_)
        | (refine lavc_cond rfl (fun _ => ?_) (fun hc => absurd hc (by decide)))
        | (refine lavc_cond rfl (fun hc => absurd hc (by decide)) (fun _ => ?_))
        | (simp only [↓reduceIte, Nat.reduceEqDiff, reduceCtorEq]))
      refine lops_fz [2] ?_
      simp (disch := first | exact dch | fail) only [afz, fzV, fzS, fz_ints, List.map_cons, List.map_nil, List.getElem?_cons_zero, List.getElem?_cons_succ, List.set_cons_zero, List.set_cons_succ, ints_length, true_and, and_true, and_self, if_true, if_false, ↓reduceIte, Nat.reduceEqDiff, Nat.reduceLeDiff, Nat.reduceMul, Nat.reduceAdd, Nat.zero_add, Nat.mul_one, Nat.le_refl, List.length_replicate, List.drop_zero, ints_drop, ints_take, List.take_of_length_le, false_and, and_false, reduceCtorEq, Bool.false_eq_true, forall_const, if_pos, if_neg, lm, ← hT, hfz]
      (repeat (with_reducible refine And.intro acl ?_))
      intro K hK
      simp (disch := first | exact dch | fail) only [go_sem, Nat.reduceAdd, Nat.reduceSub, reduceIte, Nat.reduceEqDiff, Int.reduceToNat, Int.reduceBEq, Int.reduceBNe, lm, ← hT, hfz]
      refine ⟨_, _, Or.inl ((po _).go _).weakQ, hK _ _ ?_⟩
      clear hK K
      repeat (first
        | (with_reducible refine lops_step fun K hK => ?_; simp (disch := first | exact dch | fail) only [go_sem, Nat.reduceAdd, Nat.reduceSub, reduceIte, Nat.reduceEqDiff, Int.reduceToNat, Int.reduceBEq, Int.reduceBNe, dg]; (try (first | (refine And.intro (fun _ => ?_) (fun h => absurd h (by decide))) | (refine And.intro (fun h => absurd h (by decide)) (fun _ => ?_)))); (repeat (with_reducible refine And.intro acl ?_)); (first | (refine hK _ _ ?_) | (refine ⟨_, rfl, hK _ _ ?_⟩) | (refine Or.inl (hK _ _ ?_)) | (refine ⟨_, _, Or.inl (gp.go _), (by first | exact ⟨[], (List.append_nil _).symm⟩ | exact ⟨_, rfl⟩), hK _ _ ?_⟩) | (refine ⟨_, _, Or.inl (gp.go _), hK _ _ ?_⟩) | (refine ⟨_, _, Or.inl (gp.go _).weakQ, hK _ _ ?_⟩) | (refine ⟨_, _, Or.inl (sz.go _), (by first | exact ⟨[], (List.append_nil _).symm⟩ | exact ⟨_, rfl⟩), hK _ _ ?_⟩) | (refine ⟨_, _, Or.inl (sz.go _), hK _ _ ?_⟩) | (refine ⟨_, _, Or.inl (sz.go _).weakQ, hK _ _ ?_⟩)); clear hK K)
        | (with_reducible refine lops_nil ?_)
        | (with_reducible first | refine lavc_reg ?_ | refine lavc_seq ?_ | refine lavc_block ?_ | refine lavc_skip ?_ | refine lavc_exit ?_ | refine lavc_ret ?_ | refine lavcR_round ?_)
        | (refine lavc_cond rfl (fun _ => ?_) (fun hc => absurd hc (by decide)))
        | (refine lavc_cond rfl (fun hc => absurd hc (by decide)) (fun _ => ?_))
        | (simp only [↓reduceIte, Nat.reduceEqDiff, reduceCtorEq]))
      refine And.intro (by simp) ?_
      simp (disch := first | exact dch | fail) only [go_sem, Nat.reduceAdd, Nat.reduceSub, reduceIte, Nat.reduceEqDiff, Int.reduceToNat, Int.reduceBEq, Int.reduceBNe, aret, aretL, aret1, aenv]
      (repeat (with_reducible refine And.intro acl ?_))
      exact end0 (NR.v _) rfl
theorem makes_p (i a : ByteArray) (n m : Int) (more : List ByteArray) (now : Int) (hs : ∀ s ∈ more, s.size ≤ 9223372036854775807) :
    PCall Tryd.prog glob 5 [madeS i a n m more, ivC now] (.v (.bool true)) := by
  by_cases h1 : 60 < i.size
  · exact makes_few i a n m more now (.inl h1)
  by_cases h2 : 60 < a.size
  · exact makes_few i a n m more now (.inr (.inl h2))
  by_cases h3 : 20 < more.length
  · exact makes_few i a n m more now (.inr (.inr h3))
  by_cases gn : tFirst ≤ n ∧ n ≤ tLast
  · obtain ⟨t, ht, rfl⟩ := mom_of n gn.1 gn.2
    by_cases gm : tFirst ≤ m ∧ m ≤ tLast
    · obtain ⟨u, hu, rfl⟩ := mom_of m gm.1 gm.2
      exact makes_ok i a t u ht hu more now h1 h2 h3 hs
    · exact makes_bad2 i a t ht m more now h1 h2 h3 gm
  · exact makes_bad1 i a n m more now h1 h2 h3 gn
end Go.Abs.S
namespace Go.Proofs.YtgmchiadphdlhaaDoor.claimMakes
open Go.ChangeShapes Go.WideShapes Go.ChangeAt Go.RowKit
open Go.ChangeMaps (open_string shut_string)
open Go.Abs (AV AR lawSig)
set_option linter.unusedVariables false
set_option linter.unusedSimpArgs false
theorem own : ownKnob Tryd.prog.godebug = none := by kernel_rfl
theorem laidOut : laidOutB Tryd.prog = true := by kernel_rfl
theorem gl_of {W : World} (h : laidMetH Tryd.prog Rows.claimMakesRow.laid W) (g : Nat) : AR (lawSig W) W (Go.Abs.S.glob g) (.pointer (some ⟨g, 0, none⟩)) := by
  rw [MakeChecks.laidMetH_plain _ _ _ (by kernel_rfl)] at h
  unfold Go.Abs.S.glob
  by_cases e0 : g = 0
  · subst e0
    rw [if_pos rfl]
    exact Go.Abs.laid_ar (fun i => LaidCells.laid_cell h (n := "escutcheon/hour.months") (d := Rows.laid_escutcheon_hour_months) (by simp [Rows.claimMakesRow]) (g := 0) (t := 94) (k := 8) (l := Go.Abs.S.cells_escutcheon_hour_months) (by kernel_rfl) (by kernel_rfl) (by kernel_rfl) i) (of_decide_eq_true (by kernel_rfl)) Go.Abs.S.glob_escutcheon_hour_months
  rw [if_neg e0]
  by_cases e1 : g = 1
  · subst e1
    rw [if_pos rfl]
    exact Go.Abs.laid_ar (fun i => LaidCells.laid_cell h (n := "unicode/utf8.first") (d := Rows.laid_unicode_utf8_first) (by simp [Rows.claimMakesRow]) (g := 1) (t := 115) (k := 8) (l := Go.Abs.S.cells_unicode_utf8_first) (by kernel_rfl) (by kernel_rfl) (by kernel_rfl) i) (of_decide_eq_true (by kernel_rfl)) Go.Abs.S.glob_unicode_utf8_first
  rw [if_neg e1]
  by_cases e2 : g = 2
  · subst e2
    rw [if_pos rfl]
    exact Go.Abs.laid_ar (fun i => LaidCells.laid_cell h (n := "unicode/utf8.acceptRanges") (d := Rows.laid_unicode_utf8_acceptRanges) (by simp [Rows.claimMakesRow]) (g := 2) (t := 118) (k := 8) (l := Go.Abs.S.cells_unicode_utf8_acceptRanges) (by kernel_rfl) (by kernel_rfl) (by kernel_rfl) i) (of_decide_eq_true (by kernel_rfl)) Go.Abs.S.glob_unicode_utf8_acceptRanges
  rw [if_neg e2]
  by_cases e3 : g = 3
  · subst e3
    rw [if_pos rfl]
    exact Go.Abs.laid_ar (fun i => LaidCells.laid_cell h (n := "internal/strconv.uint64pow10") (d := Rows.laid_internal_strconv_uint64pow10) (by simp [Rows.claimMakesRow]) (g := 3) (t := 128) (k := 8) (l := Go.Abs.S.cells_internal_strconv_uint64pow10) (by kernel_rfl) (by kernel_rfl) (by kernel_rfl) i) (of_decide_eq_true (by kernel_rfl)) Go.Abs.S.glob_internal_strconv_uint64pow10
  rw [if_neg e3]
  by_cases e7 : g = 7
  · subst e7
    rw [if_pos rfl]
    exact Go.Abs.laid_ar (fun i => LaidCells.laid_cell h (n := "math/bits.deBruijn32tab") (d := Rows.laid_math_bits_deBruijn32tab) (by simp [Rows.claimMakesRow]) (g := 7) (t := 144) (k := 8) (l := Go.Abs.S.cells_math_bits_deBruijn32tab) (by kernel_rfl) (by kernel_rfl) (by kernel_rfl) i) (of_decide_eq_true (by kernel_rfl)) Go.Abs.S.glob_math_bits_deBruijn32tab
  rw [if_neg e7]
  by_cases e8 : g = 8
  · subst e8
    rw [if_pos rfl]
    exact Go.Abs.laid_ar (fun i => LaidCells.laid_cell h (n := "math/bits.deBruijn64tab") (d := Rows.laid_math_bits_deBruijn64tab) (by simp [Rows.claimMakesRow]) (g := 8) (t := 145) (k := 8) (l := Go.Abs.S.cells_math_bits_deBruijn64tab) (by kernel_rfl) (by kernel_rfl) (by kernel_rfl) i) (of_decide_eq_true (by kernel_rfl)) Go.Abs.S.glob_math_bits_deBruijn64tab
  rw [if_neg e8]
  exact AR.any _
set_option maxRecDepth 100000 in
theorem lifted (os : Os) (started : os.Started) (H : Type) (enc : TypeId × Value → H) :
    ReturnsInHanded {} Tryd.checked os 5 .any (fun w args => (Rows.claimMakesSpec.pre enc Tryd.prog Tryd.f5 [] false w args ∧ laidMetH Tryd.prog Rows.claimMakesRow.laid w) ∧ sizedMet enc Tryd.prog Tryd.f5 (OpenSpec.ofChange Rows.claimMakesSpec) false w args)
      (Rows.claimMakesSpec.post enc Tryd.prog Tryd.f5 false true false false) := by
  refine returnsInHanded_of_change_and (C := Tryd.checked) (X := fun w _ => laidMetH Tryd.prog Rows.claimMakesRow.laid w) (fun _ _ _ hh h => h.of_heap hh) own started (by kernel_rfl) Tryd.func5
    (ChangeSpec.witness_shaped (enc := enc) (C := Tryd.checked) (os := os) (X := fun w _ => laidMetH Tryd.prog Rows.claimMakesRow.laid w) false (World.laidAll Tryd.prog os Rows.claimMakesRow.laid) #[.agg #[.string ByteArray.empty, .string ByteArray.empty, .int .i64 0, .int .i64 0, .slice none 0 0], .int .i64 0] 8 (World.laidAll_os _ _ _) (World.shaped_of_ZipB (by kernel_rfl) (by kernel_rfl)) (by kernel_rfl) (by kernel_rfl) (by kernel_rfl) (by rw [MakeChecks.laidMetH_plain _ _ _ (by kernel_rfl)]; exact laidMet_laidAll _ (by kernel_rfl) (by kernel_rfl))) ?_
  intro W base args ds gs before hval0 hW _ hsz0 hL _
  have hval : ∀ (j : Nat) t v, Tryd.f5.params[j]? = some t → args[j]? = some v → Value.okWide Tryd.prog W .any base t v := hval0
  have hW' := hW
  obtain ⟨p, q, hA0, hV, rfl, hfz, hnd⟩ := hW
  have hA : DataW.TrodAll enc Tryd.prog W 0 (fun _ => true) true Tryd.f5.params.toList args.toList ds p := hA0
  rw [Tryd.params5] at hA hval
  obtain ⟨v0, vs0, d0, ds0, p0, q0, hargs, rfl, rfl, h0, r0⟩ := trodAll_cons hA
  obtain ⟨v1, vs1, d1, ds1, p1, q1, rfl, rfl, rfl, h1, r1⟩ := trodAll_cons r0
  obtain ⟨rfl, rfl, rfl⟩ := trodAll_nil r1
  obtain rfl : args = #[v0, v1] := by cases args; simp_all
  obtain ⟨rfl, rfl⟩ := trodVars_none hV
  have k0 := h0
  have lt0 : ∀ x ∈ p0, x.block < W.heap.size := by obtain ⟨m, hm⟩ := k0; exact DataW.trod_lt m _ _ _ hm
  obtain ⟨us0, rfl⟩ := Go.Abs.okWide_struct Tryd.underlying43 (hval 0 43 v0 rfl rfl)
  obtain ⟨y0, w0, a0⟩ := Go.Abs.Rd.argN (r := (Go.Abs.Rd.pair Go.Abs.Rd.str (Go.Abs.Rd.pair Go.Abs.Rd.str (Go.Abs.Rd.pair (Go.Abs.Rd.int .i64) (Go.Abs.Rd.pair (Go.Abs.Rd.int .i64) (Go.Abs.Rd.pair Go.Abs.Rd.str.slice Go.Abs.Rd.unit)))))) (Go.Abs.Rd.struct_is Tryd.underlying43 (by kernel_rfl) (fun _ _ => trivial) (Go.Abs.Rd.fields_cons rfl (by kernel_rfl) (Go.Abs.Rd.str_is Tryd.underlying9) (Go.Abs.Rd.fields_cons rfl (by kernel_rfl) (Go.Abs.Rd.str_is Tryd.underlying9) (Go.Abs.Rd.fields_cons rfl (by kernel_rfl) (Go.Abs.Rd.int_is Tryd.underlying3) (Go.Abs.Rd.fields_cons rfl (by kernel_rfl) (Go.Abs.Rd.int_is Tryd.underlying3) (Go.Abs.Rd.fields_cons rfl (by kernel_rfl) (Go.Abs.Rd.slice_is Tryd.underlying23 (by kernel_rfl) (by decide) (Go.Abs.Rd.str_is Tryd.underlying9)) (Go.Abs.Rd.fields_nil _))))))) h0
  obtain ⟨l0_0, l0_1, l0_2, l0_3, l0_4, _⟩ := y0
  obtain ⟨l1, rfl, rfl, rfl, w1⟩ := open_int Tryd.underlying3 (hval 1 3 v1 rfl rfl) h1
  have z1 := w1
  simp [Lit.wf, IntKind.min, IntKind.max, IntKind.signed, IntKind.bits] at z1
  clear hA0 hval0 hsz0
  refine (Go.Abs.ACall.law (b := true) (G := Go.Abs.S.glob) (args := [AV.agg [.v (.string l0_0), .v (.string l0_1), .v (.int .i64 l0_2), .v (.int .i64 l0_3), AV.vsl l0_4.length (Go.Abs.strs l0_4) none], AV.v (.int .i64 l1)]) ((Go.Abs.S.makes_p l0_0 l0_1 l0_2 l0_3 l0_4 l1 (by have := w0; intro s hs; have h := this.2.2.2.2.1.2 s hs; have hm : Go.maxLen ≤ 9223372036854775807 := (by decide); exact Nat.le_trans h hm) [])) rfl ?_ (gl_of hL)).mono fun e W' ⟨he, hbel⟩ => ?_
  · intro j hj
    match j, hj with
    | 0, _ => exact (by have h : AR (Go.Abs.lawSig W) W (AV.agg [.v (.string l0_0), .v (.string l0_1), .v (.int .i64 l0_2), .v (.int .i64 l0_3), AV.vsl l0_4.length (l0_4.flatMap Go.Abs.Rd.str.av) none]) _ := a0; simp only [Go.Abs.rd_slice, Go.Abs.rd_arr, Go.Abs.flat_ints, Go.Abs.flat_rows, Go.Abs.flat_strs] at h; exact h)
    | 1, _ => exact AR.v _
  have bel : Below W.heap.size W W' := hbel
  subst he
  exact ⟨_, rfl, _, _, _, [], _, [], hW', trodAll_mk1 (shut_bool Tryd.underlying4 _), (trodAll_cons_mk (Below.trod laidOut (by kernel_rfl) (of_decide_eq_true (by kernel_rfl)) k0 bel lt0) (trodAll_cons_mk (shut_int Tryd.underlying3 w1) trodAll_mk0)), rfl, bel.frame _, fun h => by cases h⟩
theorem over : Rows.claimMakesRow.holds Tryd.pinned (OpenSpec.ofChange Rows.claimMakesSpec) :=
  OpenClaim.holds_of_wide 5 Tryd.f5 rfl rfl rfl rfl rfl rfl rfl ⟨rfl, rfl, rfl, rfl, rfl⟩ rfl rfl rfl rfl rfl (by kernel_rfl) Tryd.func5 (by kernel_rfl)
    (of_decide_eq_true (by kernel_rfl)) (by unfold Func.isWrapper; first | (rw [if_pos (by decide +kernel)]; kernel_rfl) | (rw [if_neg (by decide +kernel)]; exact ⟨rfl, rfl⟩))
    (fun os started H enc _ => lifted os started H enc)
theorem card : Rows.ClaimMakesCardSaid :=
  Claim7.holds_tied_plain_at .later [] [.data, .data, .data, .data, .sentinel, .sentinel, .data, .pinned] true (true, "5c630d77956728696dd087655ef91e1eecc44bf6940e2b6faeeed3046e015fb0") true
    over (fun _ h => by cases h) (by kernel_rfl) (fun _ h => by cases h) claimMakes_row_tie rfl ⟨rfl, rfl⟩ (by kernel_rfl) rfl
    (fun f fn hf hfn => by
      obtain rfl : f = 5 := Option.some.inj ((show Tryd.prog.funcNamed "escutcheon/escutcheonlaw22.ClaimMakes" = some 5 by kernel_rfl).symm.trans hf) |>.symm
      obtain rfl : fn = Tryd.f5 := (Option.some.inj (Tryd.func5.symm.trans hfn)).symm
      refine ⟨by kernel_rfl, fun j t ht => ?_⟩
      rw [Tryd.params5] at ht
      rcases j with _ | j
      · obtain rfl : t = 43 := by simpa using ht.symm
        exact (show Tryd.prog.wantsStandIn 43 = false by kernel_rfl)
      rcases j with _ | j
      · obtain rfl : t = 3 := by simpa using ht.symm
        exact (show Tryd.prog.wantsStandIn 3 = false by kernel_rfl)
      · simp at ht)
    (by kernel_rfl)
#print axioms card
end Go.Proofs.YtgmchiadphdlhaaDoor.claimMakes
namespace Go.Proofs.YtgmchiadphdlhaaDoor
/-- The statement, under a short name, for the claim. -/
theorem claimMakes_holds : Rows.ClaimMakesCardSaid := claimMakes.card
end Go.Proofs.YtgmchiadphdlhaaDoor
