/- hour: a text read, in the program, on. hour: texts read, plainly; the fixed fact. -/
import Derived.Test.YtgmchiadphdlhaaDoorMuJ
namespace Go.Abs.S
attribute [local go_sem] lguard aopO aop nxL aenv toAV tput aLoad aStore vcells aBin aNilI aUn aAlloc aBox aBuild aBSlice afill aConv isIntT aappZ aCap aArr aMM aMake aSlice bnd3 bnd aFldAddr aFld aIdxAddr aIdx aExt aLen aCopy aEq0 bAV aUb aapp aappQ agh acont List.getD_cons_zero List.getD_cons_succ List.set_cons_zero List.set_cons_succ List.getElem?_cons_zero List.getElem?_cons_succ List.length_cons List.length_nil List.map_cons List.map_nil ints_length if_true if_false Bool.false_eq_true true_and and_true eq_self ne_eq not_false_eq_true not_true_eq_false beq_self_eq_true Nat.zero_add Nat.add_zero Nat.mul_one Nat.zero_mul Int.toNat_natCast List.toList_toArray List.all_cons List.all_nil AV.one Value.oneCell' Bool.and_true Bool.true_and forall_const true_implies false_implies implies_true Option.map_some Option.map_none Option.isSome_some Option.isSome_none imp_self rdP_flat rdP_row splice_one ints_set ints_get List.append_nil List.cons_append List.nil_append List.getElem?_toArray List.drop_zero ints_drop ints_take List.take_of_length_le splice_all ints_one Option.some.injEq Option.getD_some List.length_replicate zArr List.map_replicate rep_ints splice_intsR List.length_set List.length_append List.flatten_replicate_singleton rep_slice rep_string rep_bool rep_iface List.replicate_zero if_pos if_neg List.mapM_cons List.mapM_nil Option.pure_def Option.bind_eq_bind Option.bind_some Bool.true_eq_false Bool.not_false Bool.not_true get_concat set_concat
open Go.Proofs
open Go.Abs.H
set_option linter.unusedVariables false
set_option linter.unusedSimpArgs false
set_option maxRecDepth 100000
set_option maxHeartbeats 4000000
theorem mom_in {s : ByteArray} (h : D19 s) : (0 ≤ n4 s 0 ∧ n4 s 0 ≤ 9999) ∧ (0 ≤ n2 s 5 ∧ n2 s 5 ≤ 99) ∧ (0 ≤ n2 s 8 ∧ n2 s 8 ≤ 99) ∧ (0 ≤ n2 s 11 ∧ n2 s 11 ≤ 99) ∧ (0 ≤ n2 s 14 ∧ n2 s 14 ≤ 99) ∧ (0 ≤ n2 s 17 ∧ n2 s 17 ≤ 99) := by
  obtain ⟨h0, _, h5, _, h8, _, h11, _, h14, _, h17⟩ := h
  exact ⟨n4_in h0, n2_in h5, n2_in h8, n2_in h11, n2_in h14, n2_in h17⟩
theorem num2_p (s : ByteArray) (a b : Nat) (hb : b = a + 2) (hs : b ≤ s.size) (h : dg s a ∧ dg s (a + 1)) : PCall Tryd.prog glob 60 [.v (.string (s.extract a b))] (iv (n2 s a)) := by
  subst hb
  have hz : (s.extract a (a + 2)).size = 2 := by rw [ext_size]; omega
  have := number_p (s.extract a (a + 2)) (by omega) (by omega) ((allD2 s a hs).2 h)
  rwa [num2 s a hs] at this
theorem num4_p (s : ByteArray) (hs : 4 ≤ s.size) (h : dg s 0 ∧ dg s 1 ∧ dg s 2 ∧ dg s 3) : PCall Tryd.prog glob 60 [.v (.string (s.extract 0 4))] (iv (n4 s 0)) := by
  have hz : (s.extract 0 4).size = 4 := by rw [ext_size]; omega
  have := number_p (s.extract 0 4) (by omega) (by omega) ((allD4 s hs).2 h)
  rwa [num4 s hs] at this
theorem Read_z (s : ByteArray) (hF : Formed s) (hs : s.size = 20) : PCall Tryd.prog glob 45 [.v (.string s)] (.tup [iv (readP s).1, iv (readP s).2]) := by
  have hF0 := hF
  refine PCall.of ctx.nr nrs (NR.t2 _ _) ?_
  refine lcall45 (by simp) 0 (Nat.le_refl _) ?_
  unfold lc45
  simp only [List.length_cons, List.length_nil, Nat.reduceAdd, Nat.reduceSub, List.replicate_succ, List.replicate_zero, List.cons_append, List.nil_append]
  have hif : (if (s.size : Int) < 19 then (s.size : Int) else 19) = ((19 : Nat) : Int) := by
    split <;> omega
  have hif2 : (if (19 : Int) < (s.size : Int) then (19 : Int) else (s.size : Int)) = ((19 : Nat) : Int) := by
    split <;> omega
  have hfo := (formed_iff s 19 (by omega)).1 hF
  have hmi := mom_in hF.1
  obtain ⟨hd19, hcase⟩ := hF
  obtain ⟨h0, _, h5, _, h8, _, h11, _, h14, _, h17⟩ := hd19
  have hz0 : (s.extract 0 19).size ≤ 1000000 := by rw [ext_size]; omega
  have f0 := fits_p (s.extract 0 19) F19 hz0 (by decide)
  rw [decide_eq_true hfo.1] at f0
  have np0 := num4_p s (by omega) h0
  have np5 := num2_p s 5 7 rfl (by omega) h5
  have np8 := num2_p s 8 10 rfl (by omega) h8
  have np11 := num2_p s 11 13 rfl (by omega) h11
  have np14 := num2_p s 14 16 rfl (by omega) h14
  have np17 := num2_p s 17 19 rfl (by omega) h17
  have gp := good_p (momS s) (by show -9223372036854775808 ≤ n2 s 5 ∧ n2 s 5 ≤ 9223372036854775807; omega)
  rw [goodP_ok (momS s) (by show 0 ≤ n2 s 11; omega) (by show 0 ≤ n2 s 14; omega) (by show 0 ≤ n2 s 17; omega)] at gp
  have emv : mv (momS s) = .agg (ints .i64 [n4 s 0, n2 s 5, n2 s 8, n2 s 11, n2 s 14, n2 s 17]) := rfl
  rw [emv] at gp
  have bm : ∀ a b c d e f : Int, (((List.take 0 (List.replicate 6 0) ++ (((List.replicate 3 0).set 0 a).set 1 b).set 2 c ++ List.drop 3 (List.replicate 6 0)).set 3 d).set 4 e).set 5 f = [a, b, c, d, e, f] := fun _ _ _ _ _ _ => rfl
  have hb0 := bt_ext s 19 s.size 0 (by omega)
  rw [Nat.add_zero] at hb0
  have hez : (s.extract 19 s.size).size = s.size - 19 := by rw [ext_size]; omega
  have hb19 : bt s 19 = 90 := by rcases hcase with h | h <;> omega
  have hE1 : s.extract 19 s.size = ⟨#[90]⟩ := by
    rcases hfo.2 with h | h | h
    · exact h
    · have := h.1
      rw [hez] at this
      have e : FP.size = 6 := rfl
      omega
    · have := h.1
      rw [hez] at this
      have e : FM.size = 6 := rfl
      omega
  have q : ((⟨#[90]⟩ : ByteArray).toList == (⟨#[90]⟩ : ByteArray).toList) = true := by simp
  have q0 : (((({ data := #[90] } : ByteArray).data.toList.getD 0 0).toNat : Int) == 43) = false := by decide
  have hov : ¬ (s.size = 25 ∧ (23 < n2 s 20 ∨ 59 < n2 s 23)) := by omega
  have hsh : shf s = 0 := by unfold shf; rw [if_pos hs]
  by_cases hok : ¬ (momS s).ok
  · rw [decide_eq_false hok] at gp
    have er : readP s = (0, 12) := by unfold readP; rw [if_neg (not_not_intro hF0), if_neg hov, if_pos hok]
    rw [er]
    repeat (first
      | (with_reducible refine lops_step fun K hK => ?_; simp (disch := first | exact dch | fail) only [go_sem, Nat.reduceAdd, Nat.reduceSub, reduceIte, Nat.reduceEqDiff, Int.reduceToNat, Int.reduceBEq, Int.reduceBNe, bm, hif, hif2, hE1, q, q0]; (try (first | (refine And.intro (fun _ => ?_) (fun h => absurd h (by decide))) | (refine And.intro (fun h => absurd h (by decide)) (fun _ => ?_)))); (repeat (with_reducible refine And.intro acl ?_)); (first | (refine hK _ _ ?_) | (refine ⟨_, rfl, hK _ _ ?_⟩) | (refine Or.inl (hK _ _ ?_)) | (refine ⟨_, _, Or.inl (f0.go _), (by first | exact ⟨[], (List.append_nil _).symm⟩ | exact ⟨_, rfl⟩), hK _ _ ?_⟩) | (refine ⟨_, _, Or.inl (f0.go _), hK _ _ ?_⟩) | (refine ⟨_, _, Or.inl (f0.go _).weakQ, hK _ _ ?_⟩) | (refine ⟨_, _, Or.inl (np0.go _), (by first | exact ⟨[], (List.append_nil _).symm⟩ | exact ⟨_, rfl⟩), hK _ _ ?_⟩) | (refine ⟨_, _, Or.inl (np0.go _), hK _ _ ?_⟩) | (refine ⟨_, _, Or.inl (np0.go _).weakQ, hK _ _ ?_⟩) | (refine ⟨_, _, Or.inl (np5.go _), (by first | exact ⟨[], (List.append_nil _).symm⟩ | exact ⟨_, rfl⟩), hK _ _ ?_⟩) | (refine ⟨_, _, Or.inl (np5.go _), hK _ _ ?_⟩) | (refine ⟨_, _, Or.inl (np5.go _).weakQ, hK _ _ ?_⟩) | (refine ⟨_, _, Or.inl (np8.go _), (by first | exact ⟨[], (List.append_nil _).symm⟩ | exact ⟨_, rfl⟩), hK _ _ ?_⟩) | (refine ⟨_, _, Or.inl (np8.go _), hK _ _ ?_⟩) | (refine ⟨_, _, Or.inl (np8.go _).weakQ, hK _ _ ?_⟩) | (refine ⟨_, _, Or.inl (np11.go _), (by first | exact ⟨[], (List.append_nil _).symm⟩ | exact ⟨_, rfl⟩), hK _ _ ?_⟩) | (refine ⟨_, _, Or.inl (np11.go _), hK _ _ ?_⟩) | (refine ⟨_, _, Or.inl (np11.go _).weakQ, hK _ _ ?_⟩) | (refine ⟨_, _, Or.inl (np14.go _), (by first | exact ⟨[], (List.append_nil _).symm⟩ | exact ⟨_, rfl⟩), hK _ _ ?_⟩) | (refine ⟨_, _, Or.inl (np14.go _), hK _ _ ?_⟩) | (refine ⟨_, _, Or.inl (np14.go _).weakQ, hK _ _ ?_⟩) | (refine ⟨_, _, Or.inl (np17.go _), (by first | exact ⟨[], (List.append_nil _).symm⟩ | exact ⟨_, rfl⟩), hK _ _ ?_⟩) | (refine ⟨_, _, Or.inl (np17.go _), hK _ _ ?_⟩) | (refine ⟨_, _, Or.inl (np17.go _).weakQ, hK _ _ ?_⟩) | (refine ⟨_, _, Or.inl (gp.go _), (by first | exact ⟨[], (List.append_nil _).symm⟩ | exact ⟨_, rfl⟩), hK _ _ ?_⟩) | (refine ⟨_, _, Or.inl (gp.go _), hK _ _ ?_⟩) | (refine ⟨_, _, Or.inl (gp.go _).weakQ, hK _ _ ?_⟩)); clear hK K)
      | (with_reducible refine lops_nil ?_)
      | (with_reducible first | refine lavc_reg ?_ | refine lavc_seq ?_ | refine lavc_block ?_ | refine lavc_skip ?_ | refine lavc_exit ?_ | refine lavc_ret ?_ | refine lavcR_round ?_)
      | (refine lavc_cond rfl (fun _ => ?_) (fun hc => absurd hc (by decide)))
      | (refine lavc_cond rfl (fun hc => absurd hc (by decide)) (fun _ => ?_))
      | (simp only [↓reduceIte, Nat.reduceEqDiff, reduceCtorEq]))
    refine And.intro (by simp) ?_
    simp (disch := first | exact dch | fail) only [go_sem, Nat.reduceAdd, Nat.reduceSub, reduceIte, Nat.reduceEqDiff, Int.reduceToNat, Int.reduceBEq, Int.reduceBNe, aret, aretL, aret1, aenv]
    (repeat (with_reducible refine And.intro acl ?_))
    exact end0 (NR.t2 _ _) rfl
  replace hok := Decidable.not_not.1 hok
  rw [decide_eq_true hok] at gp
  have sp := seconds_p (momS s) hok
  rw [emv] at sp
  have hsi := secs_in hok
  unfold tFirst tLast at hsi
  have w3 := i64z (secs (momS s) + 0) (by omega)
  have tp := time_p (secs (momS s) + 0)
  obtain ⟨N, hN⟩ : ∃ N, secs (momS s) = N := ⟨_, rfl⟩
  by_cases ht : ¬ (tFirst ≤ secs (momS s) + 0 ∧ secs (momS s) + 0 ≤ tLast)
  · rw [decide_eq_false ht] at tp
    have er : readP s = (0, 12) := by unfold readP; rw [if_neg (not_not_intro hF0), if_neg hov, if_neg (not_not_intro hok), hsh, if_pos ht]
    rw [er]
    rw [hN] at sp tp w3
    repeat (first
      | (with_reducible refine lops_step fun K hK => ?_; simp (disch := first | exact dch | fail) only [go_sem, Nat.reduceAdd, Nat.reduceSub, reduceIte, Nat.reduceEqDiff, Int.reduceToNat, Int.reduceBEq, Int.reduceBNe, w3, bm, hif, hif2, hE1, q, q0]; (try (first | (refine And.intro (fun _ => ?_) (fun h => absurd h (by decide))) | (refine And.intro (fun h => absurd h (by decide)) (fun _ => ?_)))); (repeat (with_reducible refine And.intro acl ?_)); (first | (refine hK _ _ ?_) | (refine ⟨_, rfl, hK _ _ ?_⟩) | (refine Or.inl (hK _ _ ?_)) | (refine ⟨_, _, Or.inl (f0.go _), (by first | exact ⟨[], (List.append_nil _).symm⟩ | exact ⟨_, rfl⟩), hK _ _ ?_⟩) | (refine ⟨_, _, Or.inl (f0.go _), hK _ _ ?_⟩) | (refine ⟨_, _, Or.inl (f0.go _).weakQ, hK _ _ ?_⟩) | (refine ⟨_, _, Or.inl (np0.go _), (by first | exact ⟨[], (List.append_nil _).symm⟩ | exact ⟨_, rfl⟩), hK _ _ ?_⟩) | (refine ⟨_, _, Or.inl (np0.go _), hK _ _ ?_⟩) | (refine ⟨_, _, Or.inl (np0.go _).weakQ, hK _ _ ?_⟩) | (refine ⟨_, _, Or.inl (np5.go _), (by first | exact ⟨[], (List.append_nil _).symm⟩ | exact ⟨_, rfl⟩), hK _ _ ?_⟩) | (refine ⟨_, _, Or.inl (np5.go _), hK _ _ ?_⟩) | (refine ⟨_, _, Or.inl (np5.go _).weakQ, hK _ _ ?_⟩) | (refine ⟨_, _, Or.inl (np8.go _), (by first | exact ⟨[], (List.append_nil _).symm⟩ | exact ⟨_, rfl⟩), hK _ _ ?_⟩) | (refine ⟨_, _, Or.inl (np8.go _), hK _ _ ?_⟩) | (refine ⟨_, _, Or.inl (np8.go _).weakQ, hK _ _ ?_⟩) | (refine ⟨_, _, Or.inl (np11.go _), (by first | exact ⟨[], (List.append_nil _).symm⟩ | exact ⟨_, rfl⟩), hK _ _ ?_⟩) | (refine ⟨_, _, Or.inl (np11.go _), hK _ _ ?_⟩) | (refine ⟨_, _, Or.inl (np11.go _).weakQ, hK _ _ ?_⟩) | (refine ⟨_, _, Or.inl (np14.go _), (by first | exact ⟨[], (List.append_nil _).symm⟩ | exact ⟨_, rfl⟩), hK _ _ ?_⟩) | (refine ⟨_, _, Or.inl (np14.go _), hK _ _ ?_⟩) | (refine ⟨_, _, Or.inl (np14.go _).weakQ, hK _ _ ?_⟩) | (refine ⟨_, _, Or.inl (np17.go _), (by first | exact ⟨[], (List.append_nil _).symm⟩ | exact ⟨_, rfl⟩), hK _ _ ?_⟩) | (refine ⟨_, _, Or.inl (np17.go _), hK _ _ ?_⟩) | (refine ⟨_, _, Or.inl (np17.go _).weakQ, hK _ _ ?_⟩) | (refine ⟨_, _, Or.inl (gp.go _), (by first | exact ⟨[], (List.append_nil _).symm⟩ | exact ⟨_, rfl⟩), hK _ _ ?_⟩) | (refine ⟨_, _, Or.inl (gp.go _), hK _ _ ?_⟩) | (refine ⟨_, _, Or.inl (gp.go _).weakQ, hK _ _ ?_⟩) | (refine ⟨_, _, Or.inl (sp.go _), (by first | exact ⟨[], (List.append_nil _).symm⟩ | exact ⟨_, rfl⟩), hK _ _ ?_⟩) | (refine ⟨_, _, Or.inl (sp.go _), hK _ _ ?_⟩) | (refine ⟨_, _, Or.inl (sp.go _).weakQ, hK _ _ ?_⟩) | (refine ⟨_, _, Or.inl (tp.go _), (by first | exact ⟨[], (List.append_nil _).symm⟩ | exact ⟨_, rfl⟩), hK _ _ ?_⟩) | (refine ⟨_, _, Or.inl (tp.go _), hK _ _ ?_⟩) | (refine ⟨_, _, Or.inl (tp.go _).weakQ, hK _ _ ?_⟩)); clear hK K)
      | (with_reducible refine lops_nil ?_)
      | (with_reducible first | refine lavc_reg ?_ | refine lavc_seq ?_ | refine lavc_block ?_ | refine lavc_skip ?_ | refine lavc_exit ?_ | refine lavc_ret ?_ | refine lavcR_round ?_)
      | (refine lavc_cond rfl (fun _ => ?_) (fun hc => absurd hc (by decide)))
      | (refine lavc_cond rfl (fun hc => absurd hc (by decide)) (fun _ => ?_))
      | (simp only [↓reduceIte, Nat.reduceEqDiff, reduceCtorEq]))
    refine And.intro (by simp) ?_
    simp (disch := first | exact dch | fail) only [go_sem, Nat.reduceAdd, Nat.reduceSub, reduceIte, Nat.reduceEqDiff, Int.reduceToNat, Int.reduceBEq, Int.reduceBNe, aret, aretL, aret1, aenv]
    (repeat (with_reducible refine And.intro acl ?_))
    exact end0 (NR.t2 _ _) rfl
  replace ht := Decidable.not_not.1 ht
  rw [decide_eq_true ht] at tp
  have er : readP s = (secs (momS s) + 0, 0) := by unfold readP; rw [if_neg (not_not_intro hF0), if_neg hov, if_neg (not_not_intro hok), hsh, if_neg (not_not_intro ht)]
  rw [er]
  rw [hN] at sp tp w3 ⊢
  repeat (first
    | (with_reducible refine lops_step fun K hK => ?_; simp (disch := first | exact dch | fail) only [go_sem, Nat.reduceAdd, Nat.reduceSub, reduceIte, Nat.reduceEqDiff, Int.reduceToNat, Int.reduceBEq, Int.reduceBNe, w3, bm, hif, hif2, hE1, q, q0]; (try (first | (refine And.intro (fun _ => ?_) (fun h => absurd h (by decide))) | (refine And.intro (fun h => absurd h (by decide)) (fun _ => ?_)))); (repeat (with_reducible refine And.intro acl ?_)); (first | (refine hK _ _ ?_) | (refine ⟨_, rfl, hK _ _ ?_⟩) | (refine Or.inl (hK _ _ ?_)) | (refine ⟨_, _, Or.inl (f0.go _), (by first | exact ⟨[], (List.append_nil _).symm⟩ | exact ⟨_, rfl⟩), hK _ _ ?_⟩) | (refine ⟨_, _, Or.inl (f0.go _), hK _ _ ?_⟩) | (refine ⟨_, _, Or.inl (f0.go _).weakQ, hK _ _ ?_⟩) | (refine ⟨_, _, Or.inl (np0.go _), (by first | exact ⟨[], (List.append_nil _).symm⟩ | exact ⟨_, rfl⟩), hK _ _ ?_⟩) | (refine ⟨_, _, Or.inl (np0.go _), hK _ _ ?_⟩) | (refine ⟨_, _, Or.inl (np0.go _).weakQ, hK _ _ ?_⟩) | (refine ⟨_, _, Or.inl (np5.go _), (by first | exact ⟨[], (List.append_nil _).symm⟩ | exact ⟨_, rfl⟩), hK _ _ ?_⟩) | (refine ⟨_, _, Or.inl (np5.go _), hK _ _ ?_⟩) | (refine ⟨_, _, Or.inl (np5.go _).weakQ, hK _ _ ?_⟩) | (refine ⟨_, _, Or.inl (np8.go _), (by first | exact ⟨[], (List.append_nil _).symm⟩ | exact ⟨_, rfl⟩), hK _ _ ?_⟩) | (refine ⟨_, _, Or.inl (np8.go _), hK _ _ ?_⟩) | (refine ⟨_, _, Or.inl (np8.go _).weakQ, hK _ _ ?_⟩) | (refine ⟨_, _, Or.inl (np11.go _), (by first | exact ⟨[], (List.append_nil _).symm⟩ | exact ⟨_, rfl⟩), hK _ _ ?_⟩) | (refine ⟨_, _, Or.inl (np11.go _), hK _ _ ?_⟩) | (refine ⟨_, _, Or.inl (np11.go _).weakQ, hK _ _ ?_⟩) | (refine ⟨_, _, Or.inl (np14.go _), (by first | exact ⟨[], (List.append_nil _).symm⟩ | exact ⟨_, rfl⟩), hK _ _ ?_⟩) | (refine ⟨_, _, Or.inl (np14.go _), hK _ _ ?_⟩) | (refine ⟨_, _, Or.inl (np14.go _).weakQ, hK _ _ ?_⟩) | (refine ⟨_, _, Or.inl (np17.go _), (by first | exact ⟨[], (List.append_nil _).symm⟩ | exact ⟨_, rfl⟩), hK _ _ ?_⟩) | (refine ⟨_, _, Or.inl (np17.go _), hK _ _ ?_⟩) | (refine ⟨_, _, Or.inl (np17.go _).weakQ, hK _ _ ?_⟩) | (refine ⟨_, _, Or.inl (gp.go _), (by first | exact ⟨[], (List.append_nil _).symm⟩ | exact ⟨_, rfl⟩), hK _ _ ?_⟩) | (refine ⟨_, _, Or.inl (gp.go _), hK _ _ ?_⟩) | (refine ⟨_, _, Or.inl (gp.go _).weakQ, hK _ _ ?_⟩) | (refine ⟨_, _, Or.inl (sp.go _), (by first | exact ⟨[], (List.append_nil _).symm⟩ | exact ⟨_, rfl⟩), hK _ _ ?_⟩) | (refine ⟨_, _, Or.inl (sp.go _), hK _ _ ?_⟩) | (refine ⟨_, _, Or.inl (sp.go _).weakQ, hK _ _ ?_⟩) | (refine ⟨_, _, Or.inl (tp.go _), (by first | exact ⟨[], (List.append_nil _).symm⟩ | exact ⟨_, rfl⟩), hK _ _ ?_⟩) | (refine ⟨_, _, Or.inl (tp.go _), hK _ _ ?_⟩) | (refine ⟨_, _, Or.inl (tp.go _).weakQ, hK _ _ ?_⟩)); clear hK K)
    | (with_reducible refine lops_nil ?_)
    | (with_reducible first | refine lavc_reg ?_ | refine lavc_seq ?_ | refine lavc_block ?_ | refine lavc_skip ?_ | refine lavc_exit ?_ | refine lavc_ret ?_ | refine lavcR_round ?_)
    | (refine lavc_cond rfl (fun _ => ?_) (fun hc => absurd hc (by decide)))
    | (refine lavc_cond rfl (fun hc => absurd hc (by decide)) (fun _ => ?_))
    | (simp only [↓reduceIte, Nat.reduceEqDiff, reduceCtorEq]))
  refine And.intro (by simp) ?_
  simp (disch := first | exact dch | fail) only [go_sem, Nat.reduceAdd, Nat.reduceSub, reduceIte, Nat.reduceEqDiff, Int.reduceToNat, Int.reduceBEq, Int.reduceBNe, aret, aretL, aret1, aenv]
  (repeat (with_reducible refine And.intro acl ?_))
  exact end0 (NR.t2 _ _) rfl
theorem Read_25 (s : ByteArray) (hF : Formed s) (hs : s.size = 25) : PCall Tryd.prog glob 45 [.v (.string s)] (.tup [iv (readP s).1, iv (readP s).2]) := by
  have hF0 := hF
  refine PCall.of ctx.nr nrs (NR.t2 _ _) ?_
  refine lcall45 (by simp) 0 (Nat.le_refl _) ?_
  unfold lc45
  simp only [List.length_cons, List.length_nil, Nat.reduceAdd, Nat.reduceSub, List.replicate_succ, List.replicate_zero, List.cons_append, List.nil_append]
  have hif : (if (s.size : Int) < 19 then (s.size : Int) else 19) = ((19 : Nat) : Int) := by
    split <;> omega
  have hif2 : (if (19 : Int) < (s.size : Int) then (19 : Int) else (s.size : Int)) = ((19 : Nat) : Int) := by
    split <;> omega
  have hfo := (formed_iff s 19 (by omega)).1 hF
  have hmi := mom_in hF.1
  obtain ⟨hd19, hcase⟩ := hF
  obtain ⟨h0, _, h5, _, h8, _, h11, _, h14, _, h17⟩ := hd19
  have hz0 : (s.extract 0 19).size ≤ 1000000 := by rw [ext_size]; omega
  have f0 := fits_p (s.extract 0 19) F19 hz0 (by decide)
  rw [decide_eq_true hfo.1] at f0
  have np0 := num4_p s (by omega) h0
  have np5 := num2_p s 5 7 rfl (by omega) h5
  have np8 := num2_p s 8 10 rfl (by omega) h8
  have np11 := num2_p s 11 13 rfl (by omega) h11
  have np14 := num2_p s 14 16 rfl (by omega) h14
  have np17 := num2_p s 17 19 rfl (by omega) h17
  have gp := good_p (momS s) (by show -9223372036854775808 ≤ n2 s 5 ∧ n2 s 5 ≤ 9223372036854775807; omega)
  rw [goodP_ok (momS s) (by show 0 ≤ n2 s 11; omega) (by show 0 ≤ n2 s 14; omega) (by show 0 ≤ n2 s 17; omega)] at gp
  have emv : mv (momS s) = .agg (ints .i64 [n4 s 0, n2 s 5, n2 s 8, n2 s 11, n2 s 14, n2 s 17]) := rfl
  rw [emv] at gp
  have bm : ∀ a b c d e f : Int, (((List.take 0 (List.replicate 6 0) ++ (((List.replicate 3 0).set 0 a).set 1 b).set 2 c ++ List.drop 3 (List.replicate 6 0)).set 3 d).set 4 e).set 5 f = [a, b, c, d, e, f] := fun _ _ _ _ _ _ => rfl
  have hb0 := bt_ext s 19 s.size 0 (by omega)
  rw [Nat.add_zero] at hb0
  have hez : (s.extract 19 s.size).size = s.size - 19 := by rw [ext_size]; omega
  have hE25 : E25 s := by rcases hcase with h | h; omega; exact h.2
  obtain ⟨hsg, h20, h22, h23⟩ := hE25
  have hz1 : (s.extract 19 s.size).size ≤ 1000000 := by omega
  have f1 := fits_p (s.extract 19 s.size) FP hz1 (by decide)
  have f2 := fits_p (s.extract 19 s.size) FM hz1 (by decide)
  have b1 : ∀ i, 19 + i < s.size → bt (s.extract 19 s.size) i = bt s (19 + i) := fun i hi => bt_ext s 19 s.size i hi
  have hE1 : ¬ (s.extract 19 s.size = ⟨#[90]⟩) := fun h => by
    have h1 : (s.extract 19 s.size).size = 1 := by rw [h]; rfl
    omega
  have n20 := n2_in h20
  have n23 := n2_in h23
  obtain ⟨E, hE⟩ : ∃ E, s.extract 19 s.size = E := ⟨_, rfl⟩
  rw [hE] at f1 f2 hfo b1 hE1 hez hb0
  have e20 : n2 E 1 = n2 s 20 := by unfold n2; rw [b1 1 (by omega), b1 2 (by omega)]
  have e23 : n2 E 4 = n2 s 23 := by unfold n2; rw [b1 4 (by omega), b1 5 (by omega)]
  have hes : E.size = 6 := by omega
  have dE1 : dg E 1 ∧ dg E (1 + 1) := by unfold dg; rw [b1 1 (by omega), b1 (1 + 1) (by omega)]; exact h20
  have dE4 : dg E 4 ∧ dg E (4 + 1) := by unfold dg; rw [b1 4 (by omega), b1 (4 + 1) (by omega)]; exact h23
  have np1 := num2_p E 1 3 rfl (by omega) dE1
  have np4 := num2_p E 4 6 rfl (by omega) dE4
  rw [e20] at np1
  rw [e23] at np4
  have q : (E.toList == (⟨#[90]⟩ : ByteArray).toList) = false := by rw [str_beq, decide_eq_false hE1]
  have hbE : ((E.data.toList.getD 0 0).toNat : Int) = bt s 19 := hb0
  obtain ⟨A, hA⟩ : ∃ A, n2 s 20 = A := ⟨_, rfl⟩
  obtain ⟨M, hM⟩ : ∃ M, n2 s 23 = M := ⟨_, rfl⟩
  have w1 := i64z (A * 3600) (by omega)
  have w2 := i64z (M * 60) (by omega)
  have w4 := i64z (A * 3600 + M * 60) (by omega)
  rw [hA] at np1
  rw [hM] at np4
  rcases hsg with hsg | hsg
  · have g1 : Fits E FP := (fitsP E).2 ⟨hes, by unfold DSh; rw [b1 0 (by omega), b1 3 (by omega)]; exact ⟨hsg, dE1, h22, dE4⟩⟩
    rw [decide_eq_true g1] at f1
    have q0 : ((bt s 19 : Int) == 43) = true := by rw [hsg]; rfl
    by_cases ho1 : 23 < A
    · have d1 : decide (A > 23) = true := by rw [decide_eq_true_eq]; omega
      have er : readP s = (0, 12) := by unfold readP; rw [if_neg (not_not_intro hF0), if_pos ⟨hs, by rw [hA]; exact .inl ho1⟩]
      rw [er]
      repeat (first
        | (with_reducible refine lops_step fun K hK => ?_; simp (disch := first | exact dch | fail) only [go_sem, Nat.reduceAdd, Nat.reduceSub, reduceIte, Nat.reduceEqDiff, Int.reduceToNat, Int.reduceBEq, Int.reduceBNe, d1, bm, hif, hif2, hE, q, q0, hbE, hes, w1, w2, w4]; (try (first | (refine And.intro (fun _ => ?_) (fun h => absurd h (by decide))) | (refine And.intro (fun h => absurd h (by decide)) (fun _ => ?_)))); (repeat (with_reducible refine And.intro acl ?_)); (first | (refine hK _ _ ?_) | (refine ⟨_, rfl, hK _ _ ?_⟩) | (refine Or.inl (hK _ _ ?_)) | (refine ⟨_, _, Or.inl (f0.go _), (by first | exact ⟨[], (List.append_nil _).symm⟩ | exact ⟨_, rfl⟩), hK _ _ ?_⟩) | (refine ⟨_, _, Or.inl (f0.go _), hK _ _ ?_⟩) | (refine ⟨_, _, Or.inl (f0.go _).weakQ, hK _ _ ?_⟩) | (refine ⟨_, _, Or.inl (np0.go _), (by first | exact ⟨[], (List.append_nil _).symm⟩ | exact ⟨_, rfl⟩), hK _ _ ?_⟩) | (refine ⟨_, _, Or.inl (np0.go _), hK _ _ ?_⟩) | (refine ⟨_, _, Or.inl (np0.go _).weakQ, hK _ _ ?_⟩) | (refine ⟨_, _, Or.inl (np5.go _), (by first | exact ⟨[], (List.append_nil _).symm⟩ | exact ⟨_, rfl⟩), hK _ _ ?_⟩) | (refine ⟨_, _, Or.inl (np5.go _), hK _ _ ?_⟩) | (refine ⟨_, _, Or.inl (np5.go _).weakQ, hK _ _ ?_⟩) | (refine ⟨_, _, Or.inl (np8.go _), (by first | exact ⟨[], (List.append_nil _).symm⟩ | exact ⟨_, rfl⟩), hK _ _ ?_⟩) | (refine ⟨_, _, Or.inl (np8.go _), hK _ _ ?_⟩) | (refine ⟨_, _, Or.inl (np8.go _).weakQ, hK _ _ ?_⟩) | (refine ⟨_, _, Or.inl (np11.go _), (by first | exact ⟨[], (List.append_nil _).symm⟩ | exact ⟨_, rfl⟩), hK _ _ ?_⟩) | (refine ⟨_, _, Or.inl (np11.go _), hK _ _ ?_⟩) | (refine ⟨_, _, Or.inl (np11.go _).weakQ, hK _ _ ?_⟩) | (refine ⟨_, _, Or.inl (np14.go _), (by first | exact ⟨[], (List.append_nil _).symm⟩ | exact ⟨_, rfl⟩), hK _ _ ?_⟩) | (refine ⟨_, _, Or.inl (np14.go _), hK _ _ ?_⟩) | (refine ⟨_, _, Or.inl (np14.go _).weakQ, hK _ _ ?_⟩) | (refine ⟨_, _, Or.inl (np17.go _), (by first | exact ⟨[], (List.append_nil _).symm⟩ | exact ⟨_, rfl⟩), hK _ _ ?_⟩) | (refine ⟨_, _, Or.inl (np17.go _), hK _ _ ?_⟩) | (refine ⟨_, _, Or.inl (np17.go _).weakQ, hK _ _ ?_⟩) | (refine ⟨_, _, Or.inl (gp.go _), (by first | exact ⟨[], (List.append_nil _).symm⟩ | exact ⟨_, rfl⟩), hK _ _ ?_⟩) | (refine ⟨_, _, Or.inl (gp.go _), hK _ _ ?_⟩) | (refine ⟨_, _, Or.inl (gp.go _).weakQ, hK _ _ ?_⟩) | (refine ⟨_, _, Or.inl (f1.go _), (by first | exact ⟨[], (List.append_nil _).symm⟩ | exact ⟨_, rfl⟩), hK _ _ ?_⟩) | (refine ⟨_, _, Or.inl (f1.go _), hK _ _ ?_⟩) | (refine ⟨_, _, Or.inl (f1.go _).weakQ, hK _ _ ?_⟩) | (refine ⟨_, _, Or.inl (f2.go _), (by first | exact ⟨[], (List.append_nil _).symm⟩ | exact ⟨_, rfl⟩), hK _ _ ?_⟩) | (refine ⟨_, _, Or.inl (f2.go _), hK _ _ ?_⟩) | (refine ⟨_, _, Or.inl (f2.go _).weakQ, hK _ _ ?_⟩) | (refine ⟨_, _, Or.inl (np1.go _), (by first | exact ⟨[], (List.append_nil _).symm⟩ | exact ⟨_, rfl⟩), hK _ _ ?_⟩) | (refine ⟨_, _, Or.inl (np1.go _), hK _ _ ?_⟩) | (refine ⟨_, _, Or.inl (np1.go _).weakQ, hK _ _ ?_⟩) | (refine ⟨_, _, Or.inl (np4.go _), (by first | exact ⟨[], (List.append_nil _).symm⟩ | exact ⟨_, rfl⟩), hK _ _ ?_⟩) | (refine ⟨_, _, Or.inl (np4.go _), hK _ _ ?_⟩) | (refine ⟨_, _, Or.inl (np4.go _).weakQ, hK _ _ ?_⟩)); clear hK K)
        | (with_reducible refine lops_nil ?_)
        | (with_reducible first | refine lavc_reg ?_ | refine lavc_seq ?_ | refine lavc_block ?_ | refine lavc_skip ?_ | refine lavc_exit ?_ | refine lavc_ret ?_ | refine lavcR_round ?_)
        | (refine lavc_cond rfl (fun _ => ?_) (fun hc => absurd hc (by decide)))
        | (refine lavc_cond rfl (fun hc => absurd hc (by decide)) (fun _ => ?_))
        | (simp only [↓reduceIte, Nat.reduceEqDiff, reduceCtorEq]))
      refine And.intro (by simp) ?_
      simp (disch := first | exact dch | fail) only [go_sem, Nat.reduceAdd, Nat.reduceSub, reduceIte, Nat.reduceEqDiff, Int.reduceToNat, Int.reduceBEq, Int.reduceBNe, aret, aretL, aret1, aenv]
      (repeat (with_reducible refine And.intro acl ?_))
      exact end0 (NR.t2 _ _) rfl
    have d1 : decide (A > 23) = false := by rw [decide_eq_false_iff_not]; omega
    by_cases ho2 : 59 < M
    · have d2 : decide (M > 59) = true := by rw [decide_eq_true_eq]; omega
      have er : readP s = (0, 12) := by unfold readP; rw [if_neg (not_not_intro hF0), if_pos ⟨hs, by rw [hM]; exact .inr ho2⟩]
      rw [er]
      repeat (first
        | (with_reducible refine lops_step fun K hK => ?_; simp (disch := first | exact dch | fail) only [go_sem, Nat.reduceAdd, Nat.reduceSub, reduceIte, Nat.reduceEqDiff, Int.reduceToNat, Int.reduceBEq, Int.reduceBNe, d1, d2, bm, hif, hif2, hE, q, q0, hbE, hes, w1, w2, w4]; (try (first | (refine And.intro (fun _ => ?_) (fun h => absurd h (by decide))) | (refine And.intro (fun h => absurd h (by decide)) (fun _ => ?_)))); (repeat (with_reducible refine And.intro acl ?_)); (first | (refine hK _ _ ?_) | (refine ⟨_, rfl, hK _ _ ?_⟩) | (refine Or.inl (hK _ _ ?_)) | (refine ⟨_, _, Or.inl (f0.go _), (by first | exact ⟨[], (List.append_nil _).symm⟩ | exact ⟨_, rfl⟩), hK _ _ ?_⟩) | (refine ⟨_, _, Or.inl (f0.go _), hK _ _ ?_⟩) | (refine ⟨_, _, Or.inl (f0.go _).weakQ, hK _ _ ?_⟩) | (refine ⟨_, _, Or.inl (np0.go _), (by first | exact ⟨[], (List.append_nil _).symm⟩ | exact ⟨_, rfl⟩), hK _ _ ?_⟩) | (refine ⟨_, _, Or.inl (np0.go _), hK _ _ ?_⟩) | (refine ⟨_, _, Or.inl (np0.go _).weakQ, hK _ _ ?_⟩) | (refine ⟨_, _, Or.inl (np5.go _), (by first | exact ⟨[], (List.append_nil _).symm⟩ | exact ⟨_, rfl⟩), hK _ _ ?_⟩) | (refine ⟨_, _, Or.inl (np5.go _), hK _ _ ?_⟩) | (refine ⟨_, _, Or.inl (np5.go _).weakQ, hK _ _ ?_⟩) | (refine ⟨_, _, Or.inl (np8.go _), (by first | exact ⟨[], (List.append_nil _).symm⟩ | exact ⟨_, rfl⟩), hK _ _ ?_⟩) | (refine ⟨_, _, Or.inl (np8.go _), hK _ _ ?_⟩) | (refine ⟨_, _, Or.inl (np8.go _).weakQ, hK _ _ ?_⟩) | (refine ⟨_, _, Or.inl (np11.go _), (by first | exact ⟨[], (List.append_nil _).symm⟩ | exact ⟨_, rfl⟩), hK _ _ ?_⟩) | (refine ⟨_, _, Or.inl (np11.go _), hK _ _ ?_⟩) | (refine ⟨_, _, Or.inl (np11.go _).weakQ, hK _ _ ?_⟩) | (refine ⟨_, _, Or.inl (np14.go _), (by first | exact ⟨[], (List.append_nil _).symm⟩ | exact ⟨_, rfl⟩), hK _ _ ?_⟩) | (refine ⟨_, _, Or.inl (np14.go _), hK _ _ ?_⟩) | (refine ⟨_, _, Or.inl (np14.go _).weakQ, hK _ _ ?_⟩) | (refine ⟨_, _, Or.inl (np17.go _), (by first | exact ⟨[], (List.append_nil _).symm⟩ | exact ⟨_, rfl⟩), hK _ _ ?_⟩) | (refine ⟨_, _, Or.inl (np17.go _), hK _ _ ?_⟩) | (refine ⟨_, _, Or.inl (np17.go _).weakQ, hK _ _ ?_⟩) | (refine ⟨_, _, Or.inl (gp.go _), (by first | exact ⟨[], (List.append_nil _).symm⟩ | exact ⟨_, rfl⟩), hK _ _ ?_⟩) | (refine ⟨_, _, Or.inl (gp.go _), hK _ _ ?_⟩) | (refine ⟨_, _, Or.inl (gp.go _).weakQ, hK _ _ ?_⟩) | (refine ⟨_, _, Or.inl (f1.go _), (by first | exact ⟨[], (List.append_nil _).symm⟩ | exact ⟨_, rfl⟩), hK _ _ ?_⟩) | (refine ⟨_, _, Or.inl (f1.go _), hK _ _ ?_⟩) | (refine ⟨_, _, Or.inl (f1.go _).weakQ, hK _ _ ?_⟩) | (refine ⟨_, _, Or.inl (f2.go _), (by first | exact ⟨[], (List.append_nil _).symm⟩ | exact ⟨_, rfl⟩), hK _ _ ?_⟩) | (refine ⟨_, _, Or.inl (f2.go _), hK _ _ ?_⟩) | (refine ⟨_, _, Or.inl (f2.go _).weakQ, hK _ _ ?_⟩) | (refine ⟨_, _, Or.inl (np1.go _), (by first | exact ⟨[], (List.append_nil _).symm⟩ | exact ⟨_, rfl⟩), hK _ _ ?_⟩) | (refine ⟨_, _, Or.inl (np1.go _), hK _ _ ?_⟩) | (refine ⟨_, _, Or.inl (np1.go _).weakQ, hK _ _ ?_⟩) | (refine ⟨_, _, Or.inl (np4.go _), (by first | exact ⟨[], (List.append_nil _).symm⟩ | exact ⟨_, rfl⟩), hK _ _ ?_⟩) | (refine ⟨_, _, Or.inl (np4.go _), hK _ _ ?_⟩) | (refine ⟨_, _, Or.inl (np4.go _).weakQ, hK _ _ ?_⟩)); clear hK K)
        | (with_reducible refine lops_nil ?_)
        | (with_reducible first | refine lavc_reg ?_ | refine lavc_seq ?_ | refine lavc_block ?_ | refine lavc_skip ?_ | refine lavc_exit ?_ | refine lavc_ret ?_ | refine lavcR_round ?_)
        | (refine lavc_cond rfl (fun _ => ?_) (fun hc => absurd hc (by decide)))
        | (refine lavc_cond rfl (fun hc => absurd hc (by decide)) (fun _ => ?_))
        | (simp only [↓reduceIte, Nat.reduceEqDiff, reduceCtorEq]))
      refine And.intro (by simp) ?_
      simp (disch := first | exact dch | fail) only [go_sem, Nat.reduceAdd, Nat.reduceSub, reduceIte, Nat.reduceEqDiff, Int.reduceToNat, Int.reduceBEq, Int.reduceBNe, aret, aretL, aret1, aenv]
      (repeat (with_reducible refine And.intro acl ?_))
      exact end0 (NR.t2 _ _) rfl
    have d2 : decide (M > 59) = false := by rw [decide_eq_false_iff_not]; omega
    have hov : ¬ (s.size = 25 ∧ (23 < n2 s 20 ∨ 59 < n2 s 23)) := by rw [hA, hM]; omega
    have w5 : IntKind.i64.wrap (0 - (A * 3600 + M * 60)) = -(A * 3600 + M * 60) := by rw [i64z _ (by omega)]; omega
    have hsh : shf s = -(A * 3600 + M * 60) := by unfold shf; rw [if_neg (by omega), if_pos hsg, hA, hM]
    by_cases hok : ¬ (momS s).ok
    · rw [decide_eq_false hok] at gp
      have er : readP s = (0, 12) := by unfold readP; rw [if_neg (not_not_intro hF0), if_neg hov, if_pos hok]
      rw [er]
      repeat (first
        | (with_reducible refine lops_step fun K hK => ?_; simp (disch := first | exact dch | fail) only [go_sem, Nat.reduceAdd, Nat.reduceSub, reduceIte, Nat.reduceEqDiff, Int.reduceToNat, Int.reduceBEq, Int.reduceBNe, d1, d2, w5, bm, hif, hif2, hE, q, q0, hbE, hes, w1, w2, w4]; (try (first | (refine And.intro (fun _ => ?_) (fun h => absurd h (by decide))) | (refine And.intro (fun h => absurd h (by decide)) (fun _ => ?_)))); (repeat (with_reducible refine And.intro acl ?_)); (first | (refine hK _ _ ?_) | (refine ⟨_, rfl, hK _ _ ?_⟩) | (refine Or.inl (hK _ _ ?_)) | (refine ⟨_, _, Or.inl (f0.go _), (by first | exact ⟨[], (List.append_nil _).symm⟩ | exact ⟨_, rfl⟩), hK _ _ ?_⟩) | (refine ⟨_, _, Or.inl (f0.go _), hK _ _ ?_⟩) | (refine ⟨_, _, Or.inl (f0.go _).weakQ, hK _ _ ?_⟩) | (refine ⟨_, _, Or.inl (np0.go _), (by first | exact ⟨[], (List.append_nil _).symm⟩ | exact ⟨_, rfl⟩), hK _ _ ?_⟩) | (refine ⟨_, _, Or.inl (np0.go _), hK _ _ ?_⟩) | (refine ⟨_, _, Or.inl (np0.go _).weakQ, hK _ _ ?_⟩) | (refine ⟨_, _, Or.inl (np5.go _), (by first | exact ⟨[], (List.append_nil _).symm⟩ | exact ⟨_, rfl⟩), hK _ _ ?_⟩) | (refine ⟨_, _, Or.inl (np5.go _), hK _ _ ?_⟩) | (refine ⟨_, _, Or.inl (np5.go _).weakQ, hK _ _ ?_⟩) | (refine ⟨_, _, Or.inl (np8.go _), (by first | exact ⟨[], (List.append_nil _).symm⟩ | exact ⟨_, rfl⟩), hK _ _ ?_⟩) | (refine ⟨_, _, Or.inl (np8.go _), hK _ _ ?_⟩) | (refine ⟨_, _, Or.inl (np8.go _).weakQ, hK _ _ ?_⟩) | (refine ⟨_, _, Or.inl (np11.go _), (by first | exact ⟨[], (List.append_nil _).symm⟩ | exact ⟨_, rfl⟩), hK _ _ ?_⟩) | (refine ⟨_, _, Or.inl (np11.go _), hK _ _ ?_⟩) | (refine ⟨_, _, Or.inl (np11.go _).weakQ, hK _ _ ?_⟩) | (refine ⟨_, _, Or.inl (np14.go _), (by first | exact ⟨[], (List.append_nil _).symm⟩ | exact ⟨_, rfl⟩), hK _ _ ?_⟩) | (refine ⟨_, _, Or.inl (np14.go _), hK _ _ ?_⟩) | (refine ⟨_, _, Or.inl (np14.go _).weakQ, hK _ _ ?_⟩) | (refine ⟨_, _, Or.inl (np17.go _), (by first | exact ⟨[], (List.append_nil _).symm⟩ | exact ⟨_, rfl⟩), hK _ _ ?_⟩) | (refine ⟨_, _, Or.inl (np17.go _), hK _ _ ?_⟩) | (refine ⟨_, _, Or.inl (np17.go _).weakQ, hK _ _ ?_⟩) | (refine ⟨_, _, Or.inl (gp.go _), (by first | exact ⟨[], (List.append_nil _).symm⟩ | exact ⟨_, rfl⟩), hK _ _ ?_⟩) | (refine ⟨_, _, Or.inl (gp.go _), hK _ _ ?_⟩) | (refine ⟨_, _, Or.inl (gp.go _).weakQ, hK _ _ ?_⟩) | (refine ⟨_, _, Or.inl (f1.go _), (by first | exact ⟨[], (List.append_nil _).symm⟩ | exact ⟨_, rfl⟩), hK _ _ ?_⟩) | (refine ⟨_, _, Or.inl (f1.go _), hK _ _ ?_⟩) | (refine ⟨_, _, Or.inl (f1.go _).weakQ, hK _ _ ?_⟩) | (refine ⟨_, _, Or.inl (f2.go _), (by first | exact ⟨[], (List.append_nil _).symm⟩ | exact ⟨_, rfl⟩), hK _ _ ?_⟩) | (refine ⟨_, _, Or.inl (f2.go _), hK _ _ ?_⟩) | (refine ⟨_, _, Or.inl (f2.go _).weakQ, hK _ _ ?_⟩) | (refine ⟨_, _, Or.inl (np1.go _), (by first | exact ⟨[], (List.append_nil _).symm⟩ | exact ⟨_, rfl⟩), hK _ _ ?_⟩) | (refine ⟨_, _, Or.inl (np1.go _), hK _ _ ?_⟩) | (refine ⟨_, _, Or.inl (np1.go _).weakQ, hK _ _ ?_⟩) | (refine ⟨_, _, Or.inl (np4.go _), (by first | exact ⟨[], (List.append_nil _).symm⟩ | exact ⟨_, rfl⟩), hK _ _ ?_⟩) | (refine ⟨_, _, Or.inl (np4.go _), hK _ _ ?_⟩) | (refine ⟨_, _, Or.inl (np4.go _).weakQ, hK _ _ ?_⟩)); clear hK K)
        | (with_reducible refine lops_nil ?_)
        | (with_reducible first | refine lavc_reg ?_ | refine lavc_seq ?_ | refine lavc_block ?_ | refine lavc_skip ?_ | refine lavc_exit ?_ | refine lavc_ret ?_ | refine lavcR_round ?_)
        | (refine lavc_cond rfl (fun _ => ?_) (fun hc => absurd hc (by decide)))
        | (refine lavc_cond rfl (fun hc => absurd hc (by decide)) (fun _ => ?_))
        | (simp only [↓reduceIte, Nat.reduceEqDiff, reduceCtorEq]))
      refine And.intro (by simp) ?_
      simp (disch := first | exact dch | fail) only [go_sem, Nat.reduceAdd, Nat.reduceSub, reduceIte, Nat.reduceEqDiff, Int.reduceToNat, Int.reduceBEq, Int.reduceBNe, aret, aretL, aret1, aenv]
      (repeat (with_reducible refine And.intro acl ?_))
      exact end0 (NR.t2 _ _) rfl
    replace hok := Decidable.not_not.1 hok
    rw [decide_eq_true hok] at gp
    have sp := seconds_p (momS s) hok
    rw [emv] at sp
    have hsi := secs_in hok
    unfold tFirst tLast at hsi
    have w3 := i64z (secs (momS s) + (-(A * 3600 + M * 60))) (by omega)
    have tp := time_p (secs (momS s) + (-(A * 3600 + M * 60)))
    obtain ⟨N, hN⟩ : ∃ N, secs (momS s) = N := ⟨_, rfl⟩
    by_cases ht : ¬ (tFirst ≤ secs (momS s) + (-(A * 3600 + M * 60)) ∧ secs (momS s) + (-(A * 3600 + M * 60)) ≤ tLast)
    · rw [decide_eq_false ht] at tp
      have er : readP s = (0, 12) := by unfold readP; rw [if_neg (not_not_intro hF0), if_neg hov, if_neg (not_not_intro hok), hsh, if_pos ht]
      rw [er]
      rw [hN] at sp tp w3
      repeat (first
        | (with_reducible refine lops_step fun K hK => ?_; simp (disch := first | exact dch | fail) only [go_sem, Nat.reduceAdd, Nat.reduceSub, reduceIte, Nat.reduceEqDiff, Int.reduceToNat, Int.reduceBEq, Int.reduceBNe, w3, d1, d2, w5, bm, hif, hif2, hE, q, q0, hbE, hes, w1, w2, w4]; (try (first | (refine And.intro (fun _ => ?_) (fun h => absurd h (by decide))) | (refine And.intro (fun h => absurd h (by decide)) (fun _ => ?_)))); (repeat (with_reducible refine And.intro acl ?_)); (first | (refine hK _ _ ?_) | (refine ⟨_, rfl, hK _ _ ?_⟩) | (refine Or.inl (hK _ _ ?_)) | (refine ⟨_, _, Or.inl (f0.go _), (by first | exact ⟨[], (List.append_nil _).symm⟩ | exact ⟨_, rfl⟩), hK _ _ ?_⟩) | (refine ⟨_, _, Or.inl (f0.go _), hK _ _ ?_⟩) | (refine ⟨_, _, Or.inl (f0.go _).weakQ, hK _ _ ?_⟩) | (refine ⟨_, _, Or.inl (np0.go _), (by first | exact ⟨[], (List.append_nil _).symm⟩ | exact ⟨_, rfl⟩), hK _ _ ?_⟩) | (refine ⟨_, _, Or.inl (np0.go _), hK _ _ ?_⟩) | (refine ⟨_, _, Or.inl (np0.go _).weakQ, hK _ _ ?_⟩) | (refine ⟨_, _, Or.inl (np5.go _), (by first | exact ⟨[], (List.append_nil _).symm⟩ | exact ⟨_, rfl⟩), hK _ _ ?_⟩) | (refine ⟨_, _, Or.inl (np5.go _), hK _ _ ?_⟩) | (refine ⟨_, _, Or.inl (np5.go _).weakQ, hK _ _ ?_⟩) | (refine ⟨_, _, Or.inl (np8.go _), (by first | exact ⟨[], (List.append_nil _).symm⟩ | exact ⟨_, rfl⟩), hK _ _ ?_⟩) | (refine ⟨_, _, Or.inl (np8.go _), hK _ _ ?_⟩) | (refine ⟨_, _, Or.inl (np8.go _).weakQ, hK _ _ ?_⟩) | (refine ⟨_, _, Or.inl (np11.go _), (by first | exact ⟨[], (List.append_nil _).symm⟩ | exact ⟨_, rfl⟩), hK _ _ ?_⟩) | (refine ⟨_, _, Or.inl (np11.go _), hK _ _ ?_⟩) | (refine ⟨_, _, Or.inl (np11.go _).weakQ, hK _ _ ?_⟩) | (refine ⟨_, _, Or.inl (np14.go _), (by first | exact ⟨[], (List.append_nil _).symm⟩ | exact ⟨_, rfl⟩), hK _ _ ?_⟩) | (refine ⟨_, _, Or.inl (np14.go _), hK _ _ ?_⟩) | (refine ⟨_, _, Or.inl (np14.go _).weakQ, hK _ _ ?_⟩) | (refine ⟨_, _, Or.inl (np17.go _), (by first | exact ⟨[], (List.append_nil _).symm⟩ | exact ⟨_, rfl⟩), hK _ _ ?_⟩) | (refine ⟨_, _, Or.inl (np17.go _), hK _ _ ?_⟩) | (refine ⟨_, _, Or.inl (np17.go _).weakQ, hK _ _ ?_⟩) | (refine ⟨_, _, Or.inl (gp.go _), (by first | exact ⟨[], (List.append_nil _).symm⟩ | exact ⟨_, rfl⟩), hK _ _ ?_⟩) | (refine ⟨_, _, Or.inl (gp.go _), hK _ _ ?_⟩) | (refine ⟨_, _, Or.inl (gp.go _).weakQ, hK _ _ ?_⟩) | (refine ⟨_, _, Or.inl (f1.go _), (by first | exact ⟨[], (List.append_nil _).symm⟩ | exact ⟨_, rfl⟩), hK _ _ ?_⟩) | (refine ⟨_, _, Or.inl (f1.go _), hK _ _ ?_⟩) | (refine ⟨_, _, Or.inl (f1.go _).weakQ, hK _ _ ?_⟩) | (refine ⟨_, _, Or.inl (f2.go _), (by first | exact ⟨[], (List.append_nil _).symm⟩ | exact ⟨_, rfl⟩), hK _ _ ?_⟩) | (refine ⟨_, _, Or.inl (f2.go _), hK _ _ ?_⟩) | (refine ⟨_, _, Or.inl (f2.go _).weakQ, hK _ _ ?_⟩) | (refine ⟨_, _, Or.inl (np1.go _), (by first | exact ⟨[], (List.append_nil _).symm⟩ | exact ⟨_, rfl⟩), hK _ _ ?_⟩) | (refine ⟨_, _, Or.inl (np1.go _), hK _ _ ?_⟩) | (refine ⟨_, _, Or.inl (np1.go _).weakQ, hK _ _ ?_⟩) | (refine ⟨_, _, Or.inl (np4.go _), (by first | exact ⟨[], (List.append_nil _).symm⟩ | exact ⟨_, rfl⟩), hK _ _ ?_⟩) | (refine ⟨_, _, Or.inl (np4.go _), hK _ _ ?_⟩) | (refine ⟨_, _, Or.inl (np4.go _).weakQ, hK _ _ ?_⟩) | (refine ⟨_, _, Or.inl (sp.go _), (by first | exact ⟨[], (List.append_nil _).symm⟩ | exact ⟨_, rfl⟩), hK _ _ ?_⟩) | (refine ⟨_, _, Or.inl (sp.go _), hK _ _ ?_⟩) | (refine ⟨_, _, Or.inl (sp.go _).weakQ, hK _ _ ?_⟩) | (refine ⟨_, _, Or.inl (tp.go _), (by first | exact ⟨[], (List.append_nil _).symm⟩ | exact ⟨_, rfl⟩), hK _ _ ?_⟩) | (refine ⟨_, _, Or.inl (tp.go _), hK _ _ ?_⟩) | (refine ⟨_, _, Or.inl (tp.go _).weakQ, hK _ _ ?_⟩)); clear hK K)
        | (with_reducible refine lops_nil ?_)
        | (with_reducible first | refine lavc_reg ?_ | refine lavc_seq ?_ | refine lavc_block ?_ | refine lavc_skip ?_ | refine lavc_exit ?_ | refine lavc_ret ?_ | refine lavcR_round ?_)
        | (refine lavc_cond rfl (fun _ => ?_) (fun hc => absurd hc (by decide)))
        | (refine lavc_cond rfl (fun hc => absurd hc (by decide)) (fun _ => ?_))
        | (simp only [↓reduceIte, Nat.reduceEqDiff, reduceCtorEq]))
      refine And.intro (by simp) ?_
      simp (disch := first | exact dch | fail) only [go_sem, Nat.reduceAdd, Nat.reduceSub, reduceIte, Nat.reduceEqDiff, Int.reduceToNat, Int.reduceBEq, Int.reduceBNe, aret, aretL, aret1, aenv]
      (repeat (with_reducible refine And.intro acl ?_))
      exact end0 (NR.t2 _ _) rfl
    replace ht := Decidable.not_not.1 ht
    rw [decide_eq_true ht] at tp
    have er : readP s = (secs (momS s) + (-(A * 3600 + M * 60)), 0) := by unfold readP; rw [if_neg (not_not_intro hF0), if_neg hov, if_neg (not_not_intro hok), hsh, if_neg (not_not_intro ht)]
    rw [er]
    rw [hN] at sp tp w3 ⊢
    repeat (first
      | (with_reducible refine lops_step fun K hK => ?_; simp (disch := first | exact dch | fail) only [go_sem, Nat.reduceAdd, Nat.reduceSub, reduceIte, Nat.reduceEqDiff, Int.reduceToNat, Int.reduceBEq, Int.reduceBNe, w3, d1, d2, w5, bm, hif, hif2, hE, q, q0, hbE, hes, w1, w2, w4]; (try (first | (refine And.intro (fun _ => ?_) (fun h => absurd h (by decide))) | (refine And.intro (fun h => absurd h (by decide)) (fun _ => ?_)))); (repeat (with_reducible refine And.intro acl ?_)); (first | (refine hK _ _ ?_) | (refine ⟨_, rfl, hK _ _ ?_⟩) | (refine Or.inl (hK _ _ ?_)) | (refine ⟨_, _, Or.inl (f0.go _), (by first | exact ⟨[], (List.append_nil _).symm⟩ | exact ⟨_, rfl⟩), hK _ _ ?_⟩) | (refine ⟨_, _, Or.inl (f0.go _), hK _ _ ?_⟩) | (refine ⟨_, _, Or.inl (f0.go _).weakQ, hK _ _ ?_⟩) | (refine ⟨_, _, Or.inl (np0.go _), (by first | exact ⟨[], (List.append_nil _).symm⟩ | exact ⟨_, rfl⟩), hK _ _ ?_⟩) | (refine ⟨_, _, Or.inl (np0.go _), hK _ _ ?_⟩) | (refine ⟨_, _, Or.inl (np0.go _).weakQ, hK _ _ ?_⟩) | (refine ⟨_, _, Or.inl (np5.go _), (by first | exact ⟨[], (List.append_nil _).symm⟩ | exact ⟨_, rfl⟩), hK _ _ ?_⟩) | (refine ⟨_, _, Or.inl (np5.go _), hK _ _ ?_⟩) | (refine ⟨_, _, Or.inl (np5.go _).weakQ, hK _ _ ?_⟩) | (refine ⟨_, _, Or.inl (np8.go _), (by first | exact ⟨[], (List.append_nil _).symm⟩ | exact ⟨_, rfl⟩), hK _ _ ?_⟩) | (refine ⟨_, _, Or.inl (np8.go _), hK _ _ ?_⟩) | (refine ⟨_, _, Or.inl (np8.go _).weakQ, hK _ _ ?_⟩) | (refine ⟨_, _, Or.inl (np11.go _), (by first | exact ⟨[], (List.append_nil _).symm⟩ | exact ⟨_, rfl⟩), hK _ _ ?_⟩) | (refine ⟨_, _, Or.inl (np11.go _), hK _ _ ?_⟩) | (refine ⟨_, _, Or.inl (np11.go _).weakQ, hK _ _ ?_⟩) | (refine ⟨_, _, Or.inl (np14.go _), (by first | exact ⟨[], (List.append_nil _).symm⟩ | exact ⟨_, rfl⟩), hK _ _ ?_⟩) | (refine ⟨_, _, Or.inl (np14.go _), hK _ _ ?_⟩) | (refine ⟨_, _, Or.inl (np14.go _).weakQ, hK _ _ ?_⟩) | (refine ⟨_, _, Or.inl (np17.go _), (by first | exact ⟨[], (List.append_nil _).symm⟩ | exact ⟨_, rfl⟩), hK _ _ ?_⟩) | (refine ⟨_, _, Or.inl (np17.go _), hK _ _ ?_⟩) | (refine ⟨_, _, Or.inl (np17.go _).weakQ, hK _ _ ?_⟩) | (refine ⟨_, _, Or.inl (gp.go _), (by first | exact ⟨[], (List.append_nil _).symm⟩ | exact ⟨_, rfl⟩), hK _ _ ?_⟩) | (refine ⟨_, _, Or.inl (gp.go _), hK _ _ ?_⟩) | (refine ⟨_, _, Or.inl (gp.go _).weakQ, hK _ _ ?_⟩) | (refine ⟨_, _, Or.inl (f1.go _), (by first | exact ⟨[], (List.append_nil _).symm⟩ | exact ⟨_, rfl⟩), hK _ _ ?_⟩) | (refine ⟨_, _, Or.inl (f1.go _), hK _ _ ?_⟩) | (refine ⟨_, _, Or.inl (f1.go _).weakQ, hK _ _ ?_⟩) | (refine ⟨_, _, Or.inl (f2.go _), (by first | exact ⟨[], (List.append_nil _).symm⟩ | exact ⟨_, rfl⟩), hK _ _ ?_⟩) | (refine ⟨_, _, Or.inl (f2.go _), hK _ _ ?_⟩) | (refine ⟨_, _, Or.inl (f2.go _).weakQ, hK _ _ ?_⟩) | (refine ⟨_, _, Or.inl (np1.go _), (by first | exact ⟨[], (List.append_nil _).symm⟩ | exact ⟨_, rfl⟩), hK _ _ ?_⟩) | (refine ⟨_, _, Or.inl (np1.go _), hK _ _ ?_⟩) | (refine ⟨_, _, Or.inl (np1.go _).weakQ, hK _ _ ?_⟩) | (refine ⟨_, _, Or.inl (np4.go _), (by first | exact ⟨[], (List.append_nil _).symm⟩ | exact ⟨_, rfl⟩), hK _ _ ?_⟩) | (refine ⟨_, _, Or.inl (np4.go _), hK _ _ ?_⟩) | (refine ⟨_, _, Or.inl (np4.go _).weakQ, hK _ _ ?_⟩) | (refine ⟨_, _, Or.inl (sp.go _), (by first | exact ⟨[], (List.append_nil _).symm⟩ | exact ⟨_, rfl⟩), hK _ _ ?_⟩) | (refine ⟨_, _, Or.inl (sp.go _), hK _ _ ?_⟩) | (refine ⟨_, _, Or.inl (sp.go _).weakQ, hK _ _ ?_⟩) | (refine ⟨_, _, Or.inl (tp.go _), (by first | exact ⟨[], (List.append_nil _).symm⟩ | exact ⟨_, rfl⟩), hK _ _ ?_⟩) | (refine ⟨_, _, Or.inl (tp.go _), hK _ _ ?_⟩) | (refine ⟨_, _, Or.inl (tp.go _).weakQ, hK _ _ ?_⟩)); clear hK K)
      | (with_reducible refine lops_nil ?_)
      | (with_reducible first | refine lavc_reg ?_ | refine lavc_seq ?_ | refine lavc_block ?_ | refine lavc_skip ?_ | refine lavc_exit ?_ | refine lavc_ret ?_ | refine lavcR_round ?_)
      | (refine lavc_cond rfl (fun _ => ?_) (fun hc => absurd hc (by decide)))
      | (refine lavc_cond rfl (fun hc => absurd hc (by decide)) (fun _ => ?_))
      | (simp only [↓reduceIte, Nat.reduceEqDiff, reduceCtorEq]))
    refine And.intro (by simp) ?_
    simp (disch := first | exact dch | fail) only [go_sem, Nat.reduceAdd, Nat.reduceSub, reduceIte, Nat.reduceEqDiff, Int.reduceToNat, Int.reduceBEq, Int.reduceBNe, aret, aretL, aret1, aenv]
    (repeat (with_reducible refine And.intro acl ?_))
    exact end0 (NR.t2 _ _) rfl
  · have g1 : ¬ Fits E FP := fun h => by have := ((fitsP E).1 h).2.1; rw [b1 0 (by omega), hsg] at this; omega
    have g2 : Fits E FM := (fitsM E).2 ⟨hes, by unfold DSh; rw [b1 0 (by omega), b1 3 (by omega)]; exact ⟨hsg, dE1, h22, dE4⟩⟩
    rw [decide_eq_false g1] at f1
    rw [decide_eq_true g2] at f2
    have q0 : ((bt s 19 : Int) == 43) = false := by rw [hsg]; rfl
    by_cases ho1 : 23 < A
    · have d1 : decide (A > 23) = true := by rw [decide_eq_true_eq]; omega
      have er : readP s = (0, 12) := by unfold readP; rw [if_neg (not_not_intro hF0), if_pos ⟨hs, by rw [hA]; exact .inl ho1⟩]
      rw [er]
      repeat (first
        | (with_reducible refine lops_step fun K hK => ?_; simp (disch := first | exact dch | fail) only [go_sem, Nat.reduceAdd, Nat.reduceSub, reduceIte, Nat.reduceEqDiff, Int.reduceToNat, Int.reduceBEq, Int.reduceBNe, d1, bm, hif, hif2, hE, q, q0, hbE, hes, w1, w2, w4]; (try (first | (refine And.intro (fun _ => ?_) (fun h => absurd h (by decide))) | (refine And.intro (fun h => absurd h (by decide)) (fun _ => ?_)))); (repeat (with_reducible refine And.intro acl ?_)); (first | (refine hK _ _ ?_) | (refine ⟨_, rfl, hK _ _ ?_⟩) | (refine Or.inl (hK _ _ ?_)) | (refine ⟨_, _, Or.inl (f0.go _), (by first | exact ⟨[], (List.append_nil _).symm⟩ | exact ⟨_, rfl⟩), hK _ _ ?_⟩) | (refine ⟨_, _, Or.inl (f0.go _), hK _ _ ?_⟩) | (refine ⟨_, _, Or.inl (f0.go _).weakQ, hK _ _ ?_⟩) | (refine ⟨_, _, Or.inl (np0.go _), (by first | exact ⟨[], (List.append_nil _).symm⟩ | exact ⟨_, rfl⟩), hK _ _ ?_⟩) | (refine ⟨_, _, Or.inl (np0.go _), hK _ _ ?_⟩) | (refine ⟨_, _, Or.inl (np0.go _).weakQ, hK _ _ ?_⟩) | (refine ⟨_, _, Or.inl (np5.go _), (by first | exact ⟨[], (List.append_nil _).symm⟩ | exact ⟨_, rfl⟩), hK _ _ ?_⟩) | (refine ⟨_, _, Or.inl (np5.go _), hK _ _ ?_⟩) | (refine ⟨_, _, Or.inl (np5.go _).weakQ, hK _ _ ?_⟩) | (refine ⟨_, _, Or.inl (np8.go _), (by first | exact ⟨[], (List.append_nil _).symm⟩ | exact ⟨_, rfl⟩), hK _ _ ?_⟩) | (refine ⟨_, _, Or.inl (np8.go _), hK _ _ ?_⟩) | (refine ⟨_, _, Or.inl (np8.go _).weakQ, hK _ _ ?_⟩) | (refine ⟨_, _, Or.inl (np11.go _), (by first | exact ⟨[], (List.append_nil _).symm⟩ | exact ⟨_, rfl⟩), hK _ _ ?_⟩) | (refine ⟨_, _, Or.inl (np11.go _), hK _ _ ?_⟩) | (refine ⟨_, _, Or.inl (np11.go _).weakQ, hK _ _ ?_⟩) | (refine ⟨_, _, Or.inl (np14.go _), (by first | exact ⟨[], (List.append_nil _).symm⟩ | exact ⟨_, rfl⟩), hK _ _ ?_⟩) | (refine ⟨_, _, Or.inl (np14.go _), hK _ _ ?_⟩) | (refine ⟨_, _, Or.inl (np14.go _).weakQ, hK _ _ ?_⟩) | (refine ⟨_, _, Or.inl (np17.go _), (by first | exact ⟨[], (List.append_nil _).symm⟩ | exact ⟨_, rfl⟩), hK _ _ ?_⟩) | (refine ⟨_, _, Or.inl (np17.go _), hK _ _ ?_⟩) | (refine ⟨_, _, Or.inl (np17.go _).weakQ, hK _ _ ?_⟩) | (refine ⟨_, _, Or.inl (gp.go _), (by first | exact ⟨[], (List.append_nil _).symm⟩ | exact ⟨_, rfl⟩), hK _ _ ?_⟩) | (refine ⟨_, _, Or.inl (gp.go _), hK _ _ ?_⟩) | (refine ⟨_, _, Or.inl (gp.go _).weakQ, hK _ _ ?_⟩) | (refine ⟨_, _, Or.inl (f1.go _), (by first | exact ⟨[], (List.append_nil _).symm⟩ | exact ⟨_, rfl⟩), hK _ _ ?_⟩) | (refine ⟨_, _, Or.inl (f1.go _), hK _ _ ?_⟩) | (refine ⟨_, _, Or.inl (f1.go _).weakQ, hK _ _ ?_⟩) | (refine ⟨_, _, Or.inl (f2.go _), (by first | exact ⟨[], (List.append_nil _).symm⟩ | exact ⟨_, rfl⟩), hK _ _ ?_⟩) | (refine ⟨_, _, Or.inl (f2.go _), hK _ _ ?_⟩) | (refine ⟨_, _, Or.inl (f2.go _).weakQ, hK _ _ ?_⟩) | (refine ⟨_, _, Or.inl (np1.go _), (by first | exact ⟨[], (List.append_nil _).symm⟩ | exact ⟨_, rfl⟩), hK _ _ ?_⟩) | (refine ⟨_, _, Or.inl (np1.go _), hK _ _ ?_⟩) | (refine ⟨_, _, Or.inl (np1.go _).weakQ, hK _ _ ?_⟩) | (refine ⟨_, _, Or.inl (np4.go _), (by first | exact ⟨[], (List.append_nil _).symm⟩ | exact ⟨_, rfl⟩), hK _ _ ?_⟩) | (refine ⟨_, _, Or.inl (np4.go _), hK _ _ ?_⟩) | (refine ⟨_, _, Or.inl (np4.go _).weakQ, hK _ _ ?_⟩)); clear hK K)
        | (with_reducible refine lops_nil ?_)
        | (with_reducible first | refine lavc_reg ?_ | refine lavc_seq ?_ | refine lavc_block ?_ | refine lavc_skip ?_ | refine lavc_exit ?_ | refine lavc_ret ?_ | refine lavcR_round ?_)
        | (refine lavc_cond rfl (fun _ => ?_) (fun hc => absurd hc (by decide)))
        | (refine lavc_cond rfl (fun hc => absurd hc (by decide)) (fun _ => ?_))
        | (simp only [↓reduceIte, Nat.reduceEqDiff, reduceCtorEq]))
      refine And.intro (by simp) ?_
      simp (disch := first | exact dch | fail) only [go_sem, Nat.reduceAdd, Nat.reduceSub, reduceIte, Nat.reduceEqDiff, Int.reduceToNat, Int.reduceBEq, Int.reduceBNe, aret, aretL, aret1, aenv]
      (repeat (with_reducible refine And.intro acl ?_))
      exact end0 (NR.t2 _ _) rfl
    have d1 : decide (A > 23) = false := by rw [decide_eq_false_iff_not]; omega
    by_cases ho2 : 59 < M
    · have d2 : decide (M > 59) = true := by rw [decide_eq_true_eq]; omega
      have er : readP s = (0, 12) := by unfold readP; rw [if_neg (not_not_intro hF0), if_pos ⟨hs, by rw [hM]; exact .inr ho2⟩]
      rw [er]
      repeat (first
        | (with_reducible refine lops_step fun K hK => ?_; simp (disch := first | exact dch | fail) only [go_sem, Nat.reduceAdd, Nat.reduceSub, reduceIte, Nat.reduceEqDiff, Int.reduceToNat, Int.reduceBEq, Int.reduceBNe, d1, d2, bm, hif, hif2, hE, q, q0, hbE, hes, w1, w2, w4]; (try (first | (refine And.intro (fun _ => ?_) (fun h => absurd h (by decide))) | (refine And.intro (fun h => absurd h (by decide)) (fun _ => ?_)))); (repeat (with_reducible refine And.intro acl ?_)); (first | (refine hK _ _ ?_) | (refine ⟨_, rfl, hK _ _ ?_⟩) | (refine Or.inl (hK _ _ ?_)) | (refine ⟨_, _, Or.inl (f0.go _), (by first | exact ⟨[], (List.append_nil _).symm⟩ | exact ⟨_, rfl⟩), hK _ _ ?_⟩) | (refine ⟨_, _, Or.inl (f0.go _), hK _ _ ?_⟩) | (refine ⟨_, _, Or.inl (f0.go _).weakQ, hK _ _ ?_⟩) | (refine ⟨_, _, Or.inl (np0.go _), (by first | exact ⟨[], (List.append_nil _).symm⟩ | exact ⟨_, rfl⟩), hK _ _ ?_⟩) | (refine ⟨_, _, Or.inl (np0.go _), hK _ _ ?_⟩) | (refine ⟨_, _, Or.inl (np0.go _).weakQ, hK _ _ ?_⟩) | (refine ⟨_, _, Or.inl (np5.go _), (by first | exact ⟨[], (List.append_nil _).symm⟩ | exact ⟨_, rfl⟩), hK _ _ ?_⟩) | (refine ⟨_, _, Or.inl (np5.go _), hK _ _ ?_⟩) | (refine ⟨_, _, Or.inl (np5.go _).weakQ, hK _ _ ?_⟩) | (refine ⟨_, _, Or.inl (np8.go _), (by first | exact ⟨[], (List.append_nil _).symm⟩ | exact ⟨_, rfl⟩), hK _ _ ?_⟩) | (refine ⟨_, _, Or.inl (np8.go _), hK _ _ ?_⟩) | (refine ⟨_, _, Or.inl (np8.go _).weakQ, hK _ _ ?_⟩) | (refine ⟨_, _, Or.inl (np11.go _), (by first | exact ⟨[], (List.append_nil _).symm⟩ | exact ⟨_, rfl⟩), hK _ _ ?_⟩) | (refine ⟨_, _, Or.inl (np11.go _), hK _ _ ?_⟩) | (refine ⟨_, _, Or.inl (np11.go _).weakQ, hK _ _ ?_⟩) | (refine ⟨_, _, Or.inl (np14.go _), (by first | exact ⟨[], (List.append_nil _).symm⟩ | exact ⟨_, rfl⟩), hK _ _ ?_⟩) | (refine ⟨_, _, Or.inl (np14.go _), hK _ _ ?_⟩) | (refine ⟨_, _, Or.inl (np14.go _).weakQ, hK _ _ ?_⟩) | (refine ⟨_, _, Or.inl (np17.go _), (by first | exact ⟨[], (List.append_nil _).symm⟩ | exact ⟨_, rfl⟩), hK _ _ ?_⟩) | (refine ⟨_, _, Or.inl (np17.go _), hK _ _ ?_⟩) | (refine ⟨_, _, Or.inl (np17.go _).weakQ, hK _ _ ?_⟩) | (refine ⟨_, _, Or.inl (gp.go _), (by first | exact ⟨[], (List.append_nil _).symm⟩ | exact ⟨_, rfl⟩), hK _ _ ?_⟩) | (refine ⟨_, _, Or.inl (gp.go _), hK _ _ ?_⟩) | (refine ⟨_, _, Or.inl (gp.go _).weakQ, hK _ _ ?_⟩) | (refine ⟨_, _, Or.inl (f1.go _), (by first | exact ⟨[], (List.append_nil _).symm⟩ | exact ⟨_, rfl⟩), hK _ _ ?_⟩) | (refine ⟨_, _, Or.inl (f1.go _), hK _ _ ?_⟩) | (refine ⟨_, _, Or.inl (f1.go _).weakQ, hK _ _ ?_⟩) | (refine ⟨_, _, Or.inl (f2.go _), (by first | exact ⟨[], (List.append_nil _).symm⟩ | exact ⟨_, rfl⟩), hK _ _ ?_⟩) | (refine ⟨_, _, Or.inl (f2.go _), hK _ _ ?_⟩) | (refine ⟨_, _, Or.inl (f2.go _).weakQ, hK _ _ ?_⟩) | (refine ⟨_, _, Or.inl (np1.go _), (by first | exact ⟨[], (List.append_nil _).symm⟩ | exact ⟨_, rfl⟩), hK _ _ ?_⟩) | (refine ⟨_, _, Or.inl (np1.go _), hK _ _ ?_⟩) | (refine ⟨_, _, Or.inl (np1.go _).weakQ, hK _ _ ?_⟩) | (refine ⟨_, _, Or.inl (np4.go _), (by first | exact ⟨[], (List.append_nil _).symm⟩ | exact ⟨_, rfl⟩), hK _ _ ?_⟩) | (refine ⟨_, _, Or.inl (np4.go _), hK _ _ ?_⟩) | (refine ⟨_, _, Or.inl (np4.go _).weakQ, hK _ _ ?_⟩)); clear hK K)
        | (with_reducible refine lops_nil ?_)
        | (with_reducible first | refine lavc_reg ?_ | refine lavc_seq ?_ | refine lavc_block ?_ | refine lavc_skip ?_ | refine lavc_exit ?_ | refine lavc_ret ?_ | refine lavcR_round ?_)
        | (refine lavc_cond rfl (fun _ => ?_) (fun hc => absurd hc (by decide)))
        | (refine lavc_cond rfl (fun hc => absurd hc (by decide)) (fun _ => ?_))
        | (simp only [↓reduceIte, Nat.reduceEqDiff, reduceCtorEq]))
      refine And.intro (by simp) ?_
      simp (disch := first | exact dch | fail) only [go_sem, Nat.reduceAdd, Nat.reduceSub, reduceIte, Nat.reduceEqDiff, Int.reduceToNat, Int.reduceBEq, Int.reduceBNe, aret, aretL, aret1, aenv]
      (repeat (with_reducible refine And.intro acl ?_))
      exact end0 (NR.t2 _ _) rfl
    have d2 : decide (M > 59) = false := by rw [decide_eq_false_iff_not]; omega
    have hov : ¬ (s.size = 25 ∧ (23 < n2 s 20 ∨ 59 < n2 s 23)) := by rw [hA, hM]; omega
    have w5 := trivial
    have hsh : shf s = A * 3600 + M * 60 := by unfold shf; rw [if_neg (by omega), if_neg (by omega), hA, hM]
    by_cases hok : ¬ (momS s).ok
    · rw [decide_eq_false hok] at gp
      have er : readP s = (0, 12) := by unfold readP; rw [if_neg (not_not_intro hF0), if_neg hov, if_pos hok]
      rw [er]
      repeat (first
        | (with_reducible refine lops_step fun K hK => ?_; simp (disch := first | exact dch | fail) only [go_sem, Nat.reduceAdd, Nat.reduceSub, reduceIte, Nat.reduceEqDiff, Int.reduceToNat, Int.reduceBEq, Int.reduceBNe, d1, d2, bm, hif, hif2, hE, q, q0, hbE, hes, w1, w2, w4]; (try (first | (refine And.intro (fun _ => ?_) (fun h => absurd h (by decide))) | (refine And.intro (fun h => absurd h (by decide)) (fun _ => ?_)))); (repeat (with_reducible refine And.intro acl ?_)); (first | (refine hK _ _ ?_) | (refine ⟨_, rfl, hK _ _ ?_⟩) | (refine Or.inl (hK _ _ ?_)) | (refine ⟨_, _, Or.inl (f0.go _), (by first | exact ⟨[], (List.append_nil _).symm⟩ | exact ⟨_, rfl⟩), hK _ _ ?_⟩) | (refine ⟨_, _, Or.inl (f0.go _), hK _ _ ?_⟩) | (refine ⟨_, _, Or.inl (f0.go _).weakQ, hK _ _ ?_⟩) | (refine ⟨_, _, Or.inl (np0.go _), (by first | exact ⟨[], (List.append_nil _).symm⟩ | exact ⟨_, rfl⟩), hK _ _ ?_⟩) | (refine ⟨_, _, Or.inl (np0.go _), hK _ _ ?_⟩) | (refine ⟨_, _, Or.inl (np0.go _).weakQ, hK _ _ ?_⟩) | (refine ⟨_, _, Or.inl (np5.go _), (by first | exact ⟨[], (List.append_nil _).symm⟩ | exact ⟨_, rfl⟩), hK _ _ ?_⟩) | (refine ⟨_, _, Or.inl (np5.go _), hK _ _ ?_⟩) | (refine ⟨_, _, Or.inl (np5.go _).weakQ, hK _ _ ?_⟩) | (refine ⟨_, _, Or.inl (np8.go _), (by first | exact ⟨[], (List.append_nil _).symm⟩ | exact ⟨_, rfl⟩), hK _ _ ?_⟩) | (refine ⟨_, _, Or.inl (np8.go _), hK _ _ ?_⟩) | (refine ⟨_, _, Or.inl (np8.go _).weakQ, hK _ _ ?_⟩) | (refine ⟨_, _, Or.inl (np11.go _), (by first | exact ⟨[], (List.append_nil _).symm⟩ | exact ⟨_, rfl⟩), hK _ _ ?_⟩) | (refine ⟨_, _, Or.inl (np11.go _), hK _ _ ?_⟩) | (refine ⟨_, _, Or.inl (np11.go _).weakQ, hK _ _ ?_⟩) | (refine ⟨_, _, Or.inl (np14.go _), (by first | exact ⟨[], (List.append_nil _).symm⟩ | exact ⟨_, rfl⟩), hK _ _ ?_⟩) | (refine ⟨_, _, Or.inl (np14.go _), hK _ _ ?_⟩) | (refine ⟨_, _, Or.inl (np14.go _).weakQ, hK _ _ ?_⟩) | (refine ⟨_, _, Or.inl (np17.go _), (by first | exact ⟨[], (List.append_nil _).symm⟩ | exact ⟨_, rfl⟩), hK _ _ ?_⟩) | (refine ⟨_, _, Or.inl (np17.go _), hK _ _ ?_⟩) | (refine ⟨_, _, Or.inl (np17.go _).weakQ, hK _ _ ?_⟩) | (refine ⟨_, _, Or.inl (gp.go _), (by first | exact ⟨[], (List.append_nil _).symm⟩ | exact ⟨_, rfl⟩), hK _ _ ?_⟩) | (refine ⟨_, _, Or.inl (gp.go _), hK _ _ ?_⟩) | (refine ⟨_, _, Or.inl (gp.go _).weakQ, hK _ _ ?_⟩) | (refine ⟨_, _, Or.inl (f1.go _), (by first | exact ⟨[], (List.append_nil _).symm⟩ | exact ⟨_, rfl⟩), hK _ _ ?_⟩) | (refine ⟨_, _, Or.inl (f1.go _), hK _ _ ?_⟩) | (refine ⟨_, _, Or.inl (f1.go _).weakQ, hK _ _ ?_⟩) | (refine ⟨_, _, Or.inl (f2.go _), (by first | exact ⟨[], (List.append_nil _).symm⟩ | exact ⟨_, rfl⟩), hK _ _ ?_⟩) | (refine ⟨_, _, Or.inl (f2.go _), hK _ _ ?_⟩) | (refine ⟨_, _, Or.inl (f2.go _).weakQ, hK _ _ ?_⟩) | (refine ⟨_, _, Or.inl (np1.go _), (by first | exact ⟨[], (List.append_nil _).symm⟩ | exact ⟨_, rfl⟩), hK _ _ ?_⟩) | (refine ⟨_, _, Or.inl (np1.go _), hK _ _ ?_⟩) | (refine ⟨_, _, Or.inl (np1.go _).weakQ, hK _ _ ?_⟩) | (refine ⟨_, _, Or.inl (np4.go _), (by first | exact ⟨[], (List.append_nil _).symm⟩ | exact ⟨_, rfl⟩), hK _ _ ?_⟩) | (refine ⟨_, _, Or.inl (np4.go _), hK _ _ ?_⟩) | (refine ⟨_, _, Or.inl (np4.go _).weakQ, hK _ _ ?_⟩)); clear hK K)
        | (with_reducible refine lops_nil ?_)
        | (with_reducible first | refine lavc_reg ?_ | refine lavc_seq ?_ | refine lavc_block ?_ | refine lavc_skip ?_ | refine lavc_exit ?_ | refine lavc_ret ?_ | refine lavcR_round ?_)
        | (refine lavc_cond rfl (fun _ => ?_) (fun hc => absurd hc (by decide)))
        | (refine lavc_cond rfl (fun hc => absurd hc (by decide)) (fun _ => ?_))
        | (simp only [↓reduceIte, Nat.reduceEqDiff, reduceCtorEq]))
      refine And.intro (by simp) ?_
      simp (disch := first | exact dch | fail) only [go_sem, Nat.reduceAdd, Nat.reduceSub, reduceIte, Nat.reduceEqDiff, Int.reduceToNat, Int.reduceBEq, Int.reduceBNe, aret, aretL, aret1, aenv]
      (repeat (with_reducible refine And.intro acl ?_))
      exact end0 (NR.t2 _ _) rfl
    replace hok := Decidable.not_not.1 hok
    rw [decide_eq_true hok] at gp
    have sp := seconds_p (momS s) hok
    rw [emv] at sp
    have hsi := secs_in hok
    unfold tFirst tLast at hsi
    have w3 := i64z (secs (momS s) + (A * 3600 + M * 60)) (by omega)
    have tp := time_p (secs (momS s) + (A * 3600 + M * 60))
    obtain ⟨N, hN⟩ : ∃ N, secs (momS s) = N := ⟨_, rfl⟩
    by_cases ht : ¬ (tFirst ≤ secs (momS s) + (A * 3600 + M * 60) ∧ secs (momS s) + (A * 3600 + M * 60) ≤ tLast)
    · rw [decide_eq_false ht] at tp
      have er : readP s = (0, 12) := by unfold readP; rw [if_neg (not_not_intro hF0), if_neg hov, if_neg (not_not_intro hok), hsh, if_pos ht]
      rw [er]
      rw [hN] at sp tp w3
      repeat (first
        | (with_reducible refine lops_step fun K hK => ?_; simp (disch := first | exact dch | fail) only [go_sem, Nat.reduceAdd, Nat.reduceSub, reduceIte, Nat.reduceEqDiff, Int.reduceToNat, Int.reduceBEq, Int.reduceBNe, w3, d1, d2, bm, hif, hif2, hE, q, q0, hbE, hes, w1, w2, w4]; (try (first | (refine And.intro (fun _ => ?_) (fun h => absurd h (by decide))) | (refine And.intro (fun h => absurd h (by decide)) (fun _ => ?_)))); (repeat (with_reducible refine And.intro acl ?_)); (first | (refine hK _ _ ?_) | (refine ⟨_, rfl, hK _ _ ?_⟩) | (refine Or.inl (hK _ _ ?_)) | (refine ⟨_, _, Or.inl (f0.go _), (by first | exact ⟨[], (List.append_nil _).symm⟩ | exact ⟨_, rfl⟩), hK _ _ ?_⟩) | (refine ⟨_, _, Or.inl (f0.go _), hK _ _ ?_⟩) | (refine ⟨_, _, Or.inl (f0.go _).weakQ, hK _ _ ?_⟩) | (refine ⟨_, _, Or.inl (np0.go _), (by first | exact ⟨[], (List.append_nil _).symm⟩ | exact ⟨_, rfl⟩), hK _ _ ?_⟩) | (refine ⟨_, _, Or.inl (np0.go _), hK _ _ ?_⟩) | (refine ⟨_, _, Or.inl (np0.go _).weakQ, hK _ _ ?_⟩) | (refine ⟨_, _, Or.inl (np5.go _), (by first | exact ⟨[], (List.append_nil _).symm⟩ | exact ⟨_, rfl⟩), hK _ _ ?_⟩) | (refine ⟨_, _, Or.inl (np5.go _), hK _ _ ?_⟩) | (refine ⟨_, _, Or.inl (np5.go _).weakQ, hK _ _ ?_⟩) | (refine ⟨_, _, Or.inl (np8.go _), (by first | exact ⟨[], (List.append_nil _).symm⟩ | exact ⟨_, rfl⟩), hK _ _ ?_⟩) | (refine ⟨_, _, Or.inl (np8.go _), hK _ _ ?_⟩) | (refine ⟨_, _, Or.inl (np8.go _).weakQ, hK _ _ ?_⟩) | (refine ⟨_, _, Or.inl (np11.go _), (by first | exact ⟨[], (List.append_nil _).symm⟩ | exact ⟨_, rfl⟩), hK _ _ ?_⟩) | (refine ⟨_, _, Or.inl (np11.go _), hK _ _ ?_⟩) | (refine ⟨_, _, Or.inl (np11.go _).weakQ, hK _ _ ?_⟩) | (refine ⟨_, _, Or.inl (np14.go _), (by first | exact ⟨[], (List.append_nil _).symm⟩ | exact ⟨_, rfl⟩), hK _ _ ?_⟩) | (refine ⟨_, _, Or.inl (np14.go _), hK _ _ ?_⟩) | (refine ⟨_, _, Or.inl (np14.go _).weakQ, hK _ _ ?_⟩) | (refine ⟨_, _, Or.inl (np17.go _), (by first | exact ⟨[], (List.append_nil _).symm⟩ | exact ⟨_, rfl⟩), hK _ _ ?_⟩) | (refine ⟨_, _, Or.inl (np17.go _), hK _ _ ?_⟩) | (refine ⟨_, _, Or.inl (np17.go _).weakQ, hK _ _ ?_⟩) | (refine ⟨_, _, Or.inl (gp.go _), (by first | exact ⟨[], (List.append_nil _).symm⟩ | exact ⟨_, rfl⟩), hK _ _ ?_⟩) | (refine ⟨_, _, Or.inl (gp.go _), hK _ _ ?_⟩) | (refine ⟨_, _, Or.inl (gp.go _).weakQ, hK _ _ ?_⟩) | (refine ⟨_, _, Or.inl (f1.go _), (by first | exact ⟨[], (List.append_nil _).symm⟩ | exact ⟨_, rfl⟩), hK _ _ ?_⟩) | (refine ⟨_, _, Or.inl (f1.go _), hK _ _ ?_⟩) | (refine ⟨_, _, Or.inl (f1.go _).weakQ, hK _ _ ?_⟩) | (refine ⟨_, _, Or.inl (f2.go _), (by first | exact ⟨[], (List.append_nil _).symm⟩ | exact ⟨_, rfl⟩), hK _ _ ?_⟩) | (refine ⟨_, _, Or.inl (f2.go _), hK _ _ ?_⟩) | (refine ⟨_, _, Or.inl (f2.go _).weakQ, hK _ _ ?_⟩) | (refine ⟨_, _, Or.inl (np1.go _), (by first | exact ⟨[], (List.append_nil _).symm⟩ | exact ⟨_, rfl⟩), hK _ _ ?_⟩) | (refine ⟨_, _, Or.inl (np1.go _), hK _ _ ?_⟩) | (refine ⟨_, _, Or.inl (np1.go _).weakQ, hK _ _ ?_⟩) | (refine ⟨_, _, Or.inl (np4.go _), (by first | exact ⟨[], (List.append_nil _).symm⟩ | exact ⟨_, rfl⟩), hK _ _ ?_⟩) | (refine ⟨_, _, Or.inl (np4.go _), hK _ _ ?_⟩) | (refine ⟨_, _, Or.inl (np4.go _).weakQ, hK _ _ ?_⟩) | (refine ⟨_, _, Or.inl (sp.go _), (by first | exact ⟨[], (List.append_nil _).symm⟩ | exact ⟨_, rfl⟩), hK _ _ ?_⟩) | (refine ⟨_, _, Or.inl (sp.go _), hK _ _ ?_⟩) | (refine ⟨_, _, Or.inl (sp.go _).weakQ, hK _ _ ?_⟩) | (refine ⟨_, _, Or.inl (tp.go _), (by first | exact ⟨[], (List.append_nil _).symm⟩ | exact ⟨_, rfl⟩), hK _ _ ?_⟩) | (refine ⟨_, _, Or.inl (tp.go _), hK _ _ ?_⟩) | (refine ⟨_, _, Or.inl (tp.go _).weakQ, hK _ _ ?_⟩)); clear hK K)
        | (with_reducible refine lops_nil ?_)
        | (with_reducible first | refine lavc_reg ?_ | refine lavc_seq ?_ | refine lavc_block ?_ | refine lavc_skip ?_ | refine lavc_exit ?_ | refine lavc_ret ?_ | refine lavcR_round ?_)
        | (refine lavc_cond rfl (fun _ => ?_) (fun hc => absurd hc (by decide)))
        | (refine lavc_cond rfl (fun hc => absurd hc (by decide)) (fun _ => ?_))
        | (simp only [↓reduceIte, Nat.reduceEqDiff, reduceCtorEq]))
      refine And.intro (by simp) ?_
      simp (disch := first | exact dch | fail) only [go_sem, Nat.reduceAdd, Nat.reduceSub, reduceIte, Nat.reduceEqDiff, Int.reduceToNat, Int.reduceBEq, Int.reduceBNe, aret, aretL, aret1, aenv]
      (repeat (with_reducible refine And.intro acl ?_))
      exact end0 (NR.t2 _ _) rfl
    replace ht := Decidable.not_not.1 ht
    rw [decide_eq_true ht] at tp
    have er : readP s = (secs (momS s) + (A * 3600 + M * 60), 0) := by unfold readP; rw [if_neg (not_not_intro hF0), if_neg hov, if_neg (not_not_intro hok), hsh, if_neg (not_not_intro ht)]
    rw [er]
    rw [hN] at sp tp w3 ⊢
    repeat (first
      | (with_reducible refine lops_step fun K hK => ?_; simp (disch := first | exact dch | fail) only [go_sem, Nat.reduceAdd, Nat.reduceSub, reduceIte, Nat.reduceEqDiff, Int.reduceToNat, Int.reduceBEq, Int.reduceBNe, w3, d1, d2, bm, hif, hif2, hE, q, q0, hbE, hes, w1, w2, w4]; (try (first | (refine And.intro (fun _ => ?_) (fun h => absurd h (by decide))) | (refine And.intro (fun h => absurd h (by decide)) (fun _ => ?_)))); (repeat (with_reducible refine And.intro acl ?_)); (first | (refine hK _ _ ?_) | (refine ⟨_, rfl, hK _ _ ?_⟩) | (refine Or.inl (hK _ _ ?_)) | (refine ⟨_, _, Or.inl (f0.go _), (by first | exact ⟨[], (List.append_nil _).symm⟩ | exact ⟨_, rfl⟩), hK _ _ ?_⟩) | (refine ⟨_, _, Or.inl (f0.go _), hK _ _ ?_⟩) | (refine ⟨_, _, Or.inl (f0.go _).weakQ, hK _ _ ?_⟩) | (refine ⟨_, _, Or.inl (np0.go _), (by first | exact ⟨[], (List.append_nil _).symm⟩ | exact ⟨_, rfl⟩), hK _ _ ?_⟩) | (refine ⟨_, _, Or.inl (np0.go _), hK _ _ ?_⟩) | (refine ⟨_, _, Or.inl (np0.go _).weakQ, hK _ _ ?_⟩) | (refine ⟨_, _, Or.inl (np5.go _), (by first | exact ⟨[], (List.append_nil _).symm⟩ | exact ⟨_, rfl⟩), hK _ _ ?_⟩) | (refine ⟨_, _, Or.inl (np5.go _), hK _ _ ?_⟩) | (refine ⟨_, _, Or.inl (np5.go _).weakQ, hK _ _ ?_⟩) | (refine ⟨_, _, Or.inl (np8.go _), (by first | exact ⟨[], (List.append_nil _).symm⟩ | exact ⟨_, rfl⟩), hK _ _ ?_⟩) | (refine ⟨_, _, Or.inl (np8.go _), hK _ _ ?_⟩) | (refine ⟨_, _, Or.inl (np8.go _).weakQ, hK _ _ ?_⟩) | (refine ⟨_, _, Or.inl (np11.go _), (by first | exact ⟨[], (List.append_nil _).symm⟩ | exact ⟨_, rfl⟩), hK _ _ ?_⟩) | (refine ⟨_, _, Or.inl (np11.go _), hK _ _ ?_⟩) | (refine ⟨_, _, Or.inl (np11.go _).weakQ, hK _ _ ?_⟩) | (refine ⟨_, _, Or.inl (np14.go _), (by first | exact ⟨[], (List.append_nil _).symm⟩ | exact ⟨_, rfl⟩), hK _ _ ?_⟩) | (refine ⟨_, _, Or.inl (np14.go _), hK _ _ ?_⟩) | (refine ⟨_, _, Or.inl (np14.go _).weakQ, hK _ _ ?_⟩) | (refine ⟨_, _, Or.inl (np17.go _), (by first | exact ⟨[], (List.append_nil _).symm⟩ | exact ⟨_, rfl⟩), hK _ _ ?_⟩) | (refine ⟨_, _, Or.inl (np17.go _), hK _ _ ?_⟩) | (refine ⟨_, _, Or.inl (np17.go _).weakQ, hK _ _ ?_⟩) | (refine ⟨_, _, Or.inl (gp.go _), (by first | exact ⟨[], (List.append_nil _).symm⟩ | exact ⟨_, rfl⟩), hK _ _ ?_⟩) | (refine ⟨_, _, Or.inl (gp.go _), hK _ _ ?_⟩) | (refine ⟨_, _, Or.inl (gp.go _).weakQ, hK _ _ ?_⟩) | (refine ⟨_, _, Or.inl (f1.go _), (by first | exact ⟨[], (List.append_nil _).symm⟩ | exact ⟨_, rfl⟩), hK _ _ ?_⟩) | (refine ⟨_, _, Or.inl (f1.go _), hK _ _ ?_⟩) | (refine ⟨_, _, Or.inl (f1.go _).weakQ, hK _ _ ?_⟩) | (refine ⟨_, _, Or.inl (f2.go _), (by first | exact ⟨[], (List.append_nil _).symm⟩ | exact ⟨_, rfl⟩), hK _ _ ?_⟩) | (refine ⟨_, _, Or.inl (f2.go _), hK _ _ ?_⟩) | (refine ⟨_, _, Or.inl (f2.go _).weakQ, hK _ _ ?_⟩) | (refine ⟨_, _, Or.inl (np1.go _), (by first | exact ⟨[], (List.append_nil _).symm⟩ | exact ⟨_, rfl⟩), hK _ _ ?_⟩) | (refine ⟨_, _, Or.inl (np1.go _), hK _ _ ?_⟩) | (refine ⟨_, _, Or.inl (np1.go _).weakQ, hK _ _ ?_⟩) | (refine ⟨_, _, Or.inl (np4.go _), (by first | exact ⟨[], (List.append_nil _).symm⟩ | exact ⟨_, rfl⟩), hK _ _ ?_⟩) | (refine ⟨_, _, Or.inl (np4.go _), hK _ _ ?_⟩) | (refine ⟨_, _, Or.inl (np4.go _).weakQ, hK _ _ ?_⟩) | (refine ⟨_, _, Or.inl (sp.go _), (by first | exact ⟨[], (List.append_nil _).symm⟩ | exact ⟨_, rfl⟩), hK _ _ ?_⟩) | (refine ⟨_, _, Or.inl (sp.go _), hK _ _ ?_⟩) | (refine ⟨_, _, Or.inl (sp.go _).weakQ, hK _ _ ?_⟩) | (refine ⟨_, _, Or.inl (tp.go _), (by first | exact ⟨[], (List.append_nil _).symm⟩ | exact ⟨_, rfl⟩), hK _ _ ?_⟩) | (refine ⟨_, _, Or.inl (tp.go _), hK _ _ ?_⟩) | (refine ⟨_, _, Or.inl (tp.go _).weakQ, hK _ _ ?_⟩)); clear hK K)
      | (with_reducible refine lops_nil ?_)
      | (with_reducible first | refine lavc_reg ?_ | refine lavc_seq ?_ | refine lavc_block ?_ | refine lavc_skip ?_ | refine lavc_exit ?_ | refine lavc_ret ?_ | refine lavcR_round ?_)
      | (refine lavc_cond rfl (fun _ => ?_) (fun hc => absurd hc (by decide)))
      | (refine lavc_cond rfl (fun hc => absurd hc (by decide)) (fun _ => ?_))
      | (simp only [↓reduceIte, Nat.reduceEqDiff, reduceCtorEq]))
    refine And.intro (by simp) ?_
    simp (disch := first | exact dch | fail) only [go_sem, Nat.reduceAdd, Nat.reduceSub, reduceIte, Nat.reduceEqDiff, Int.reduceToNat, Int.reduceBEq, Int.reduceBNe, aret, aretL, aret1, aenv]
    (repeat (with_reducible refine And.intro acl ?_))
    exact end0 (NR.t2 _ _) rfl
theorem Read_p (s : ByteArray) (hs : s.size ≤ 1000000) : PCall Tryd.prog glob 45 [.v (.string s)] (.tup [iv (readP s).1, iv (readP s).2]) := by
  by_cases h : Formed s
  · rcases h.2 with g | g
    · exact Read_z s h g.1
    · exact Read_25 s h g.1
  · have e : readP s = (0, 2) := by unfold readP; rw [if_pos h]
    rw [e]
    exact Read_bad s hs h
open Go.Proofs
open Go.Abs.H
set_option linter.unusedVariables false
set_option linter.unusedSimpArgs false
set_option maxRecDepth 100000
set_option maxHeartbeats 4000000
theorem c48_d (n : Nat) : 48 ≤ c48 n ∧ c48 n ≤ 57 := by
  unfold c48
  omega
theorem two_c48 {x : Int} (h0 : 0 ≤ x) (h1 : x < 100) : (c48 (x.toNat / 10) - 48) * 10 + (c48 x.toNat - 48) = x := by
  unfold c48
  omega
theorem four_c48 {x : Int} (h0 : 0 ≤ x) (h1 : x < 10000) : (((c48 (x.toNat / 1000) - 48) * 10 + (c48 (x.toNat / 100) - 48)) * 10 + (c48 (x.toNat / 10) - 48)) * 10 + (c48 x.toNat - 48) = x := by
  unfold c48
  omega
/-- Bytes that begin as a moment's text does. -/
structure Begins (s : ByteArray) (t : Mom) : Prop where
  b0 : bt s 0 = c48 (t.x.y.toNat / 1000)
  b1 : bt s 1 = c48 (t.x.y.toNat / 100)
  b2 : bt s 2 = c48 (t.x.y.toNat / 10)
  b3 : bt s 3 = c48 t.x.y.toNat
  b4 : bt s 4 = 45
  b5 : bt s 5 = c48 (t.x.m.toNat / 10)
  b6 : bt s 6 = c48 t.x.m.toNat
  b7 : bt s 7 = 45
  b8 : bt s 8 = c48 (t.x.d.toNat / 10)
  b9 : bt s 9 = c48 t.x.d.toNat
  b10 : bt s 10 = 84
  b11 : bt s 11 = c48 (t.h.toNat / 10)
  b12 : bt s 12 = c48 t.h.toNat
  b13 : bt s 13 = 58
  b14 : bt s 14 = c48 (t.i.toNat / 10)
  b15 : bt s 15 = c48 t.i.toNat
  b16 : bt s 16 = 58
  b17 : bt s 17 = c48 (t.s.toNat / 10)
  b18 : bt s 18 = c48 t.s.toNat
theorem Begins.d19 {s : ByteArray} {t : Mom} (b : Begins s t) : D19 s := by
  unfold D19 dg
  rw [b.b0, b.b1, b.b2, b.b3, b.b4, b.b5, b.b6, b.b7, b.b8, b.b9, b.b10, b.b11, b.b12, b.b13, b.b14, b.b15, b.b16, b.b17, b.b18]
  exact ⟨⟨c48_d _, c48_d _, c48_d _, c48_d _⟩, rfl, ⟨c48_d _, c48_d _⟩, rfl, ⟨c48_d _, c48_d _⟩, rfl, ⟨c48_d _, c48_d _⟩, rfl, ⟨c48_d _, c48_d _⟩, rfl, ⟨c48_d _, c48_d _⟩⟩
theorem Begins.mom {s : ByteArray} {t : Mom} (b : Begins s t) (ht : t.ok) : momS s = t := by
  have ha := ht.1.all
  have hh := ht.2
  unfold momS n4 n2
  simp only [Nat.zero_add, Nat.reduceAdd]
  rw [b.b0, b.b1, b.b2, b.b3, b.b5, b.b6, b.b8, b.b9, b.b11, b.b12, b.b14, b.b15, b.b17, b.b18]
  rw [four_c48 (x := t.x.y) (by omega) (by omega), two_c48 (x := t.x.m) (by omega) (by omega), two_c48 (x := t.x.d) (by omega) (by omega), two_c48 (x := t.h) (by omega) (by omega), two_c48 (x := t.i) (by omega) (by omega), two_c48 (x := t.s) (by omega) (by omega)]
theorem begins_of {l : List Int} (hl : By0 l) (t : Mom) (r : List Int) (h : l = (txt t).take 19 ++ r) : Begins (strOf l) t := by
  have hlen : 19 ≤ l.length := by rw [h, List.length_append, List.length_take, txt_length]; omega
  have e : ∀ i, i < 19 → bt (strOf l) i = (txt t).getD i 0 := fun i hi => by
    rw [bt_str hl i (by omega), h]
    simp only [List.getD_eq_getElem?_getD]
    rw [List.getElem?_append_left (by rw [List.length_take, txt_length]; omega), List.getElem?_take, if_pos hi]
  have f : ∀ i v, i < 19 → (txt t).getD i 0 = v → bt (strOf l) i = v := fun i v hi hv => by rw [e i hi, hv]
  have g := txt_list t
  exact ⟨f 0 _ (by omega) (by rw [g]; rfl), f 1 _ (by omega) (by rw [g]; rfl), f 2 _ (by omega) (by rw [g]; rfl), f 3 _ (by omega) (by rw [g]; rfl), f 4 _ (by omega) (by rw [g]; rfl), f 5 _ (by omega) (by rw [g]; rfl), f 6 _ (by omega) (by rw [g]; rfl), f 7 _ (by omega) (by rw [g]; rfl), f 8 _ (by omega) (by rw [g]; rfl), f 9 _ (by omega) (by rw [g]; rfl), f 10 _ (by omega) (by rw [g]; rfl), f 11 _ (by omega) (by rw [g]; rfl), f 12 _ (by omega) (by rw [g]; rfl), f 13 _ (by omega) (by rw [g]; rfl), f 14 _ (by omega) (by rw [g]; rfl), f 15 _ (by omega) (by rw [g]; rfl), f 16 _ (by omega) (by rw [g]; rfl), f 17 _ (by omega) (by rw [g]; rfl), f 18 _ (by omega) (by rw [g]; rfl)⟩
theorem read_txt (t : Mom) (ht : t.ok) : readP (strOf (txt t)) = (secs t, 0) := by
  have hb : Begins (strOf (txt t)) t := begins_of (txt_by t) t [90] (by rw [txt_list]; rfl)
  have hs : (strOf (txt t)).size = 20 := by rw [str_size, txt_length]
  have h19 : bt (strOf (txt t)) 19 = 90 := by rw [bt_txt t 19 (by omega), txt_list]; rfl
  have hF : Formed (strOf (txt t)) := ⟨hb.d19, .inl ⟨hs, h19⟩⟩
  have hsh : shf (strOf (txt t)) = 0 := by unfold shf; rw [if_pos hs]
  have hi := secs_in ht
  unfold readP
  rw [if_neg (not_not_intro hF), if_neg (by omega), hb.mom ht, if_neg (not_not_intro ht), hsh, Int.add_zero, if_neg (by omega)]
/-- A text of twenty bytes that tells a time is that time's. -/
theorem txt_read (s : ByteArray) (hF : Formed s) (hs : s.size = 20) (hok : (momS s).ok) : strOf (txt (momS s)) = s := by
  obtain ⟨hd, hc⟩ := hF
  have h19 : bt s 19 = 90 := by rcases hc with h | h <;> omega
  obtain ⟨⟨h0, h1, h2, h3⟩, h4, ⟨h5, h6⟩, h7, ⟨h8, h9⟩, h10, ⟨h11, h12⟩, h13, ⟨h14, h15⟩, h16, ⟨h17, h18⟩⟩ := hd
  have hl : bytesOf s = [bt s 0, bt s 1, bt s 2, bt s 3, bt s 4, bt s 5, bt s 6, bt s 7, bt s 8, bt s 9, bt s 10, bt s 11, bt s 12, bt s 13, bt s 14, bt s 15, bt s 16, bt s 17, bt s 18, bt s 19] := by
    have h1 : bytesOf s = (List.range 20).map (bt s) := by
      apply List.ext_getElem
      · rw [bytesOf_length, hs]
        simp
      · intro i g1 g2
        have := bytesOf_at s i (by rw [bytesOf_length] at g1; exact g1)
        rw [List.getD_eq_getElem?_getD, List.getElem?_eq_getElem g1, Option.getD_some] at this
        rw [this]
        simp
    rw [h1]
    rfl
  have d2 : ∀ i, dg s i ∧ dg s (i + 1) → c48 ((n2 s i).toNat / 10) = bt s i ∧ c48 (n2 s i).toNat = bt s (i + 1) := fun i h => by
    unfold n2 c48
    unfold dg at h
    omega
  have d4 : c48 ((n4 s 0).toNat / 1000) = bt s 0 ∧ c48 ((n4 s 0).toNat / 100) = bt s 1 ∧ c48 ((n4 s 0).toNat / 10) = bt s 2 ∧ c48 (n4 s 0).toNat = bt s 3 := by
    unfold n4 c48
    simp only [Nat.zero_add]
    unfold dg at h0 h1 h2 h3
    generalize bt s 0 = a at *
    generalize bt s 1 = b at *
    generalize bt s 2 = c at *
    generalize bt s 3 = d at *
    obtain ⟨a, rfl⟩ : ∃ a' : Nat, a = ((48 + a' : Nat) : Int) := ⟨(a - 48).toNat, by omega⟩
    obtain ⟨b, rfl⟩ : ∃ b' : Nat, b = ((48 + b' : Nat) : Int) := ⟨(b - 48).toNat, by omega⟩
    obtain ⟨c, rfl⟩ : ∃ c' : Nat, c = ((48 + c' : Nat) : Int) := ⟨(c - 48).toNat, by omega⟩
    obtain ⟨d, rfl⟩ : ∃ d' : Nat, d = ((48 + d' : Nat) : Int) := ⟨(d - 48).toNat, by omega⟩
    obtain ⟨N, hN⟩ : ∃ N : Nat, ((((((48 + a : Nat) : Int) - 48) * 10 + (((48 + b : Nat) : Int) - 48)) * 10 + (((48 + c : Nat) : Int) - 48)) * 10 + (((48 + d : Nat) : Int) - 48)).toNat = N := ⟨_, rfl⟩
    rw [hN]
    have hN' : N = ((a * 10 + b) * 10 + c) * 10 + d := by omega
    refine ⟨by omega, by omega, by omega, by omega⟩
  have e5 := d2 5 ⟨h5, h6⟩
  have e8 := d2 8 ⟨h8, h9⟩
  have e11 := d2 11 ⟨h11, h12⟩
  have e14 := d2 14 ⟨h14, h15⟩
  have e17 := d2 17 ⟨h17, h18⟩
  have ht : txt (momS s) = bytesOf s := by
    rw [hl, txt_list]
    show [c48 ((n4 s 0).toNat / 1000), c48 ((n4 s 0).toNat / 100), c48 ((n4 s 0).toNat / 10), c48 (n4 s 0).toNat, 45, c48 ((n2 s 5).toNat / 10), c48 (n2 s 5).toNat, 45, c48 ((n2 s 8).toNat / 10), c48 (n2 s 8).toNat, 84, c48 ((n2 s 11).toNat / 10), c48 (n2 s 11).toNat, 58, c48 ((n2 s 14).toNat / 10), c48 (n2 s 14).toNat, 58, c48 ((n2 s 17).toNat / 10), c48 (n2 s 17).toNat, 90] = _
    rw [d4.1, d4.2.1, d4.2.2.1, d4.2.2.2, e5.1, e5.2, e8.1, e8.2, e11.1, e11.2, e14.1, e14.2, e17.1, e17.2, h4, h7, h10, h13, h16, h19]
  rw [ht]
  exact str_bytes s
end Go.Abs.S
