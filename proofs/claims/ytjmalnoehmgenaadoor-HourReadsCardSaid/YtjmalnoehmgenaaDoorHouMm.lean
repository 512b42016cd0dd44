/- hour: a text read, in the program, on. -/
import Derived.Test.YtjmalnoehmgenaaDoorHouJL
namespace Go.Abs.S
attribute [local go_sem] lguard aopO aop nxL aenv toAV tput aLoad aStore vcells aBin aNilI aUn aAlloc aBox aBuild aBSlice afill aConv isIntT aappZ aCap aArr aMM aMake aSlice bnd3 bnd aFldAddr aFld aIdxAddr aIdx aExt aLen aCopy aEq0 bAV aUb aapp aappQ agh acont List.getD_cons_zero List.getD_cons_succ List.set_cons_zero List.set_cons_succ List.getElem?_cons_zero List.getElem?_cons_succ List.length_cons List.length_nil List.map_cons List.map_nil ints_length if_true if_false Bool.false_eq_true true_and and_true eq_self ne_eq not_false_eq_true not_true_eq_false beq_self_eq_true Nat.zero_add Nat.add_zero Nat.mul_one Nat.zero_mul Int.toNat_natCast List.toList_toArray List.all_cons List.all_nil AV.one Value.oneCell' Bool.and_true Bool.true_and forall_const true_implies false_implies implies_true Option.map_some Option.map_none Option.isSome_some Option.isSome_none imp_self rdP_flat rdP_row splice_one ints_set ints_get List.append_nil List.cons_append List.nil_append List.getElem?_toArray List.drop_zero ints_drop ints_take List.take_of_length_le splice_all ints_one Option.some.injEq Option.getD_some List.length_replicate zArr List.map_replicate rep_ints splice_intsR List.length_set List.length_append List.flatten_replicate_singleton rep_slice rep_string rep_bool rep_iface List.replicate_zero if_pos if_neg List.mapM_cons List.mapM_nil Option.pure_def Option.bind_eq_bind Option.bind_some Bool.true_eq_false Bool.not_false Bool.not_true get_concat set_concat
open Go.Proofs
open Go.Abs.H
set_option linter.unusedVariables false
set_option linter.unusedSimpArgs false
set_option maxRecDepth 100000
set_option maxHeartbeats 4000000
theorem mom_in {s : ByteArray} (h : D19 s) : (0 ≤ n4 s 0 ∧ n4 s 0 ≤ 9999) ∧ (0 ≤ n2 s 5 ∧ n2 s 5 ≤ 99) ∧ (0 ≤ n2 s 8 ∧ n2 s 8 ≤ 99) ∧ (0 ≤ n2 s 11 ∧ n2 s 11 ≤ 99) ∧ (0 ≤ n2 s 14 ∧ n2 s 14 ≤ 99) ∧ (0 ≤ n2 s 17 ∧ n2 s 17 ≤ 99) := by
  obtain ⟨h0, _, h5, _, h8, _, h11, _, h14, _, h17⟩ := h
  exact ⟨n4_in h0, n2_in h5, n2_in h8, n2_in h11, n2_in h14, n2_in h17⟩
theorem num2_p (s : ByteArray) (a b : Nat) (hb : b = a + 2) (hs : b ≤ s.size) (h : dg s a ∧ dg s (a + 1)) : PCall Tryd.prog glob 20 [.v (.string (s.extract a b))] (iv (n2 s a)) := by
  subst hb
  have hz : (s.extract a (a + 2)).size = 2 := by rw [ext_size]; omega
  have := number_p (s.extract a (a + 2)) (by omega) (by omega) ((allD2 s a hs).2 h)
  rwa [num2 s a hs] at this
theorem num4_p (s : ByteArray) (hs : 4 ≤ s.size) (h : dg s 0 ∧ dg s 1 ∧ dg s 2 ∧ dg s 3) : PCall Tryd.prog glob 20 [.v (.string (s.extract 0 4))] (iv (n4 s 0)) := by
  have hz : (s.extract 0 4).size = 4 := by rw [ext_size]; omega
  have := number_p (s.extract 0 4) (by omega) (by omega) ((allD4 s hs).2 h)
  rwa [num4 s hs] at this
theorem Read_z (s : ByteArray) (hF : Formed s) (hs : s.size = 20) : PCall Tryd.prog glob 11 [.v (.string s)] (.tup [iv (readP s).1, iv (readP s).2]) := by
  have hF0 := hF
  refine PCall.of ctx.nr (by (repeat (refine List.forall_mem_cons.2 (And.intro (by first | exact NR.v _ | exact NR.agg (NR.ints _ _) | exact NR.vsl (NR.ints _ _) | exact NR.vptr (NR.ints _ _) | assumption) ?_))); exact fun _ h => absurd h List.not_mem_nil) (NR.t2 _ _) ?_
  refine lcall11 (by simp) 0 (Nat.le_refl _) ?_
  unfold lc11
  simp only [List.length_cons, List.length_nil, Nat.reduceAdd, Nat.reduceSub, List.replicate_succ, List.replicate_zero, List.cons_append, List.nil_append]
  have hif : (if (s.size : Int) < 19 then (s.size : Int) else 19) = ((19 : Nat) : Int) := by
    split <;> omega
  have hif2 : (if (19 : Int) < (s.size : Int) then (19 : Int) else (s.size : Int)) = ((19 : Nat) : Int) := by
    split <;> omega
  have hfo := (formed_iff s 19 (by omega)).1 hF
  have hmi := mom_in hF.1
  obtain ⟨hd19, hcase⟩ := hF
  obtain ⟨h0, _, h5, _, h8, _, h11, _, h14, _, h17⟩ := hd19
  have hz0 : (s.extract 0 19).size ≤ 1000000 := by rw [ext_size]; omega
  have f0 := fits_p (s.extract 0 19) F19 hz0 (by decide)
  rw [decide_eq_true hfo.1] at f0
  have np0 := num4_p s (by omega) h0
  have np5 := num2_p s 5 7 rfl (by omega) h5
  have np8 := num2_p s 8 10 rfl (by omega) h8
  have np11 := num2_p s 11 13 rfl (by omega) h11
  have np14 := num2_p s 14 16 rfl (by omega) h14
  have np17 := num2_p s 17 19 rfl (by omega) h17
  have gp := good_p (momS s) (by show -9223372036854775808 ≤ n2 s 5 ∧ n2 s 5 ≤ 9223372036854775807; omega)
  rw [goodP_ok (momS s) (by show 0 ≤ n2 s 11; omega) (by show 0 ≤ n2 s 14; omega) (by show 0 ≤ n2 s 17; omega)] at gp
  have emv : mv (momS s) = .agg (ints .i64 [n4 s 0, n2 s 5, n2 s 8, n2 s 11, n2 s 14, n2 s 17]) := rfl
  rw [emv] at gp
  have bm : ∀ a b c d e f : Int, (((List.take 0 (List.replicate 6 0) ++ (((List.replicate 3 0).set 0 a).set 1 b).set 2 c ++ List.drop 3 (List.replicate 6 0)).set 3 d).set 4 e).set 5 f = [a, b, c, d, e, f] := fun _ _ _ _ _ _ => rfl
  have hb0 := bt_ext s 19 s.size 0 (by omega)
  rw [Nat.add_zero] at hb0
  have hez : (s.extract 19 s.size).size = s.size - 19 := by rw [ext_size]; omega
  have hb19 : bt s 19 = 90 := by rcases hcase with h | h <;> omega
  have hE1 : s.extract 19 s.size = ⟨#[90]⟩ := by
    rcases hfo.2 with h | h | h
    · exact h
    · have := h.1
      rw [hez] at this
      have e : FP.size = 6 := rfl
      omega
    · have := h.1
      rw [hez] at this
      have e : FM.size = 6 := rfl
      omega
  have q : ((⟨#[90]⟩ : ByteArray).toList == (⟨#[90]⟩ : ByteArray).toList) = true := by simp
  have q0 : (((({ data := #[90] } : ByteArray).data.toList.getD 0 0).toNat : Int) == 43) = false := by decide
  have hov : ¬ (s.size = 25 ∧ (23 < n2 s 20 ∨ 59 < n2 s 23)) := by omega
  have hsh : shf s = 0 := by unfold shf; rw [if_pos hs]
  by_cases hok : ¬ (momS s).ok
  · rw [decide_eq_false hok] at gp
    have er : readP s = (0, 12) := by unfold readP; rw [if_neg (not_not_intro hF0), if_neg hov, if_pos hok]
    rw [er]
    repeat (first
      | (with_reducible refine lops_step fun K hK => ?_; simp (disch := first | omega | (simp only [go_sem, isRow, isFlat, Option.isSome_some]; done) | assumption | (simp only [ints_length, List.length_replicate, List.length_set, List.length_append, List.length_take, List.length_drop, List.length_cons, List.length_nil] <;> omega) | fail) only [go_sem, Nat.reduceAdd, Nat.reduceSub, reduceIte, Nat.reduceEqDiff, Int.reduceToNat, Int.reduceBEq, Int.reduceBNe, bm, hif, hif2, hE1, q, q0]; (try (first | (refine And.intro (fun _ => ?_) (fun h => absurd h (by decide))) | (refine And.intro (fun h => absurd h (by decide)) (fun _ => ?_)))); (repeat (with_reducible refine And.intro (by first | omega | rfl | assumption | decide) ?_)); (first | (refine hK _ _ ?_) | (refine ⟨_, rfl, hK _ _ ?_⟩) | (refine Or.inl (hK _ _ ?_)) | (refine ⟨_, _, Or.inl (f0.go _), (by first | exact ⟨[], (List.append_nil _).symm⟩ | exact ⟨_, rfl⟩), hK _ _ ?_⟩) | (refine ⟨_, _, Or.inl (f0.go _), hK _ _ ?_⟩) | (refine ⟨_, _, Or.inl (f0.go _).weakQ, hK _ _ ?_⟩) | (refine ⟨_, _, Or.inl (np0.go _), (by first | exact ⟨[], (List.append_nil _).symm⟩ | exact ⟨_, rfl⟩), hK _ _ ?_⟩) | (refine ⟨_, _, Or.inl (np0.go _), hK _ _ ?_⟩) | (refine ⟨_, _, Or.inl (np0.go _).weakQ, hK _ _ ?_⟩) | (refine ⟨_, _, Or.inl (np5.go _), (by first | exact ⟨[], (List.append_nil _).symm⟩ | exact ⟨_, rfl⟩), hK _ _ ?_⟩) | (refine ⟨_, _, Or.inl (np5.go _), hK _ _ ?_⟩) | (refine ⟨_, _, Or.inl (np5.go _).weakQ, hK _ _ ?_⟩) | (refine ⟨_, _, Or.inl (np8.go _), (by first | exact ⟨[], (List.append_nil _).symm⟩ | exact ⟨_, rfl⟩), hK _ _ ?_⟩) | (refine ⟨_, _, Or.inl (np8.go _), hK _ _ ?_⟩) | (refine ⟨_, _, Or.inl (np8.go _).weakQ, hK _ _ ?_⟩) | (refine ⟨_, _, Or.inl (np11.go _), (by first | exact ⟨[], (List.append_nil _).symm⟩ | exact ⟨_, rfl⟩), hK _ _ ?_⟩) | (refine ⟨_, _, Or.inl (np11.go _), hK _ _ ?_⟩) | (refine ⟨_, _, Or.inl (np11.go _).weakQ, hK _ _ ?_⟩) | (refine ⟨_, _, Or.inl (np14.go _), (by first | exact ⟨[], (List.append_nil _).symm⟩ | exact ⟨_, rfl⟩), hK _ _ ?_⟩) | (refine ⟨_, _, Or.inl (np14.go _), hK _ _ ?_⟩) | (refine ⟨_, _, Or.inl (np14.go _).weakQ, hK _ _ ?_⟩) | (refine ⟨_, _, Or.inl (np17.go _), (by first | exact ⟨[], (List.append_nil _).symm⟩ | exact ⟨_, rfl⟩), hK _ _ ?_⟩) | (refine ⟨_, _, Or.inl (np17.go _), hK _ _ ?_⟩) | (refine ⟨_, _, Or.inl (np17.go _).weakQ, hK _ _ ?_⟩) | (refine ⟨_, _, Or.inl (gp.go _), (by first | exact ⟨[], (List.append_nil _).symm⟩ | exact ⟨_, rfl⟩), hK _ _ ?_⟩) | (refine ⟨_, _, Or.inl (gp.go _), hK _ _ ?_⟩) | (refine ⟨_, _, Or.inl (gp.go _).weakQ, hK _ _ ?_⟩)); clear hK K)
      | (with_reducible refine lops_nil ?_)
      | (with_reducible refine lavc_reg ?_)
      | (with_reducible refine lavc_seq ?_)
      | (with_reducible refine lavc_block ?_)
      | (with_reducible refine lavc_skip ?_)
      | (with_reducible refine lavc_exit ?_)
      | (with_reducible refine lavc_ret ?_)
      | (with_reducible refine lavcR_round ?_)
      | (refine lavc_cond rfl (fun _ => ?_) (fun hc => absurd hc (by decide)))
      | (refine lavc_cond rfl (fun hc => absurd hc (by decide)) (fun _ => ?_))
      | (simp only [↓reduceIte, Nat.reduceEqDiff, reduceCtorEq]))
    refine And.intro (by simp) ?_
    simp (disch := first | omega | (simp only [go_sem, isRow, isFlat, Option.isSome_some]; done) | assumption | (simp only [ints_length, List.length_replicate, List.length_set, List.length_append, List.length_take, List.length_drop, List.length_cons, List.length_nil] <;> omega) | fail) only [go_sem, Nat.reduceAdd, Nat.reduceSub, reduceIte, Nat.reduceEqDiff, Int.reduceToNat, Int.reduceBEq, Int.reduceBNe, aret, aretL, aret1, aenv]
    (repeat (with_reducible refine And.intro (by first | omega | rfl | assumption | decide) ?_))
    exact end0 (NR.t2 _ _) rfl
  replace hok := Decidable.not_not.1 hok
  rw [decide_eq_true hok] at gp
  have sp := seconds_p (momS s) hok
  rw [emv] at sp
  have hsi := secs_in hok
  unfold tFirst tLast at hsi
  have w3 := i64z (secs (momS s) + 0) (by omega)
  have tp := time_p (secs (momS s) + 0)
  obtain ⟨N, hN⟩ : ∃ N, secs (momS s) = N := ⟨_, rfl⟩
  by_cases ht : ¬ (tFirst ≤ secs (momS s) + 0 ∧ secs (momS s) + 0 ≤ tLast)
  · rw [decide_eq_false ht] at tp
    have er : readP s = (0, 12) := by unfold readP; rw [if_neg (not_not_intro hF0), if_neg hov, if_neg (not_not_intro hok), hsh, if_pos ht]
    rw [er]
    rw [hN] at sp tp w3
    repeat (first
      | (with_reducible refine lops_step fun K hK => ?_; simp (disch := first | omega | (simp only [go_sem, isRow, isFlat, Option.isSome_some]; done) | assumption | (simp only [ints_length, List.length_replicate, List.length_set, List.length_append, List.length_take, List.length_drop, List.length_cons, List.length_nil] <;> omega) | fail) only [go_sem, Nat.reduceAdd, Nat.reduceSub, reduceIte, Nat.reduceEqDiff, Int.reduceToNat, Int.reduceBEq, Int.reduceBNe, w3, bm, hif, hif2, hE1, q, q0]; (try (first | (refine And.intro (fun _ => ?_) (fun h => absurd h (by decide))) | (refine And.intro (fun h => absurd h (by decide)) (fun _ => ?_)))); (repeat (with_reducible refine And.intro (by first | omega | rfl | assumption | decide) ?_)); (first | (refine hK _ _ ?_) | (refine ⟨_, rfl, hK _ _ ?_⟩) | (refine Or.inl (hK _ _ ?_)) | (refine ⟨_, _, Or.inl (f0.go _), (by first | exact ⟨[], (List.append_nil _).symm⟩ | exact ⟨_, rfl⟩), hK _ _ ?_⟩) | (refine ⟨_, _, Or.inl (f0.go _), hK _ _ ?_⟩) | (refine ⟨_, _, Or.inl (f0.go _).weakQ, hK _ _ ?_⟩) | (refine ⟨_, _, Or.inl (np0.go _), (by first | exact ⟨[], (List.append_nil _).symm⟩ | exact ⟨_, rfl⟩), hK _ _ ?_⟩) | (refine ⟨_, _, Or.inl (np0.go _), hK _ _ ?_⟩) | (refine ⟨_, _, Or.inl (np0.go _).weakQ, hK _ _ ?_⟩) | (refine ⟨_, _, Or.inl (np5.go _), (by first | exact ⟨[], (List.append_nil _).symm⟩ | exact ⟨_, rfl⟩), hK _ _ ?_⟩) | (refine ⟨_, _, Or.inl (np5.go _), hK _ _ ?_⟩) | (refine ⟨_, _, Or.inl (np5.go _).weakQ, hK _ _ ?_⟩) | (refine ⟨_, _, Or.inl (np8.go _), (by first | exact ⟨[], (List.append_nil _).symm⟩ | exact ⟨_, rfl⟩), hK _ _ ?_⟩) | (refine ⟨_, _, Or.inl (np8.go _), hK _ _ ?_⟩) | (refine ⟨_, _, Or.inl (np8.go _).weakQ, hK _ _ ?_⟩) | (refine ⟨_, _, Or.inl (np11.go _), (by first | exact ⟨[], (List.append_nil _).symm⟩ | exact ⟨_, rfl⟩), hK _ _ ?_⟩) | (refine ⟨_, _, Or.inl (np11.go _), hK _ _ ?_⟩) | (refine ⟨_, _, Or.inl (np11.go _).weakQ, hK _ _ ?_⟩) | (refine ⟨_, _, Or.inl (np14.go _), (by first | exact ⟨[], (List.append_nil _).symm⟩ | exact ⟨_, rfl⟩), hK _ _ ?_⟩) | (refine ⟨_, _, Or.inl (np14.go _), hK _ _ ?_⟩) | (refine ⟨_, _, Or.inl (np14.go _).weakQ, hK _ _ ?_⟩) | (refine ⟨_, _, Or.inl (np17.go _), (by first | exact ⟨[], (List.append_nil _).symm⟩ | exact ⟨_, rfl⟩), hK _ _ ?_⟩) | (refine ⟨_, _, Or.inl (np17.go _), hK _ _ ?_⟩) | (refine ⟨_, _, Or.inl (np17.go _).weakQ, hK _ _ ?_⟩) | (refine ⟨_, _, Or.inl (gp.go _), (by first | exact ⟨[], (List.append_nil _).symm⟩ | exact ⟨_, rfl⟩), hK _ _ ?_⟩) | (refine ⟨_, _, Or.inl (gp.go _), hK _ _ ?_⟩) | (refine ⟨_, _, Or.inl (gp.go _).weakQ, hK _ _ ?_⟩) | (refine ⟨_, _, Or.inl (sp.go _), (by first | exact ⟨[], (List.append_nil _).symm⟩ | exact ⟨_, rfl⟩), hK _ _ ?_⟩) | (refine ⟨_, _, Or.inl (sp.go _), hK _ _ ?_⟩) | (refine ⟨_, _, Or.inl (sp.go _).weakQ, hK _ _ ?_⟩) | (refine ⟨_, _, Or.inl (tp.go _), (by first | exact ⟨[], (List.append_nil _).symm⟩ | exact ⟨_, rfl⟩), hK _ _ ?_⟩) | (refine ⟨_, _, Or.inl (tp.go _), hK _ _ ?_⟩) | (refine ⟨_, _, Or.inl (tp.go _).weakQ, hK _ _ ?_⟩)); clear hK K)
      | (with_reducible refine lops_nil ?_)
      | (with_reducible refine lavc_reg ?_)
      | (with_reducible refine lavc_seq ?_)
      | (with_reducible refine lavc_block ?_)
      | (with_reducible refine lavc_skip ?_)
      | (with_reducible refine lavc_exit ?_)
      | (with_reducible refine lavc_ret ?_)
      | (with_reducible refine lavcR_round ?_)
      | (refine lavc_cond rfl (fun _ => ?_) (fun hc => absurd hc (by decide)))
      | (refine lavc_cond rfl (fun hc => absurd hc (by decide)) (fun _ => ?_))
      | (simp only [↓reduceIte, Nat.reduceEqDiff, reduceCtorEq]))
    refine And.intro (by simp) ?_
    simp (disch := first | omega | (simp only [go_sem, isRow, isFlat, Option.isSome_some]; done) | assumption | (simp only [ints_length, List.length_replicate, List.length_set, List.length_append, List.length_take, List.length_drop, List.length_cons, List.length_nil] <;> omega) | fail) only [go_sem, Nat.reduceAdd, Nat.reduceSub, reduceIte, Nat.reduceEqDiff, Int.reduceToNat, Int.reduceBEq, Int.reduceBNe, aret, aretL, aret1, aenv]
    (repeat (with_reducible refine And.intro (by first | omega | rfl | assumption | decide) ?_))
    exact end0 (NR.t2 _ _) rfl
  replace ht := Decidable.not_not.1 ht
  rw [decide_eq_true ht] at tp
  have er : readP s = (secs (momS s) + 0, 0) := by unfold readP; rw [if_neg (not_not_intro hF0), if_neg hov, if_neg (not_not_intro hok), hsh, if_neg (not_not_intro ht)]
  rw [er]
  rw [hN] at sp tp w3 ⊢
  repeat (first
    | (with_reducible refine lops_step fun K hK => ?_; simp (disch := first | omega | (simp only [go_sem, isRow, isFlat, Option.isSome_some]; done) | assumption | (simp only [ints_length, List.length_replicate, List.length_set, List.length_append, List.length_take, List.length_drop, List.length_cons, List.length_nil] <;> omega) | fail) only [go_sem, Nat.reduceAdd, Nat.reduceSub, reduceIte, Nat.reduceEqDiff, Int.reduceToNat, Int.reduceBEq, Int.reduceBNe, w3, bm, hif, hif2, hE1, q, q0]; (try (first | (refine And.intro (fun _ => ?_) (fun h => absurd h (by decide))) | (refine And.intro (fun h => absurd h (by decide)) (fun _ => ?_)))); (repeat (with_reducible refine And.intro (by first | omega | rfl | assumption | decide) ?_)); (first | (refine hK _ _ ?_) | (refine ⟨_, rfl, hK _ _ ?_⟩) | (refine Or.inl (hK _ _ ?_)) | (refine ⟨_, _, Or.inl (f0.go _), (by first | exact ⟨[], (List.append_nil _).symm⟩ | exact ⟨_, rfl⟩), hK _ _ ?_⟩) | (refine ⟨_, _, Or.inl (f0.go _), hK _ _ ?_⟩) | (refine ⟨_, _, Or.inl (f0.go _).weakQ, hK _ _ ?_⟩) | (refine ⟨_, _, Or.inl (np0.go _), (by first | exact ⟨[], (List.append_nil _).symm⟩ | exact ⟨_, rfl⟩), hK _ _ ?_⟩) | (refine ⟨_, _, Or.inl (np0.go _), hK _ _ ?_⟩) | (refine ⟨_, _, Or.inl (np0.go _).weakQ, hK _ _ ?_⟩) | (refine ⟨_, _, Or.inl (np5.go _), (by first | exact ⟨[], (List.append_nil _).symm⟩ | exact ⟨_, rfl⟩), hK _ _ ?_⟩) | (refine ⟨_, _, Or.inl (np5.go _), hK _ _ ?_⟩) | (refine ⟨_, _, Or.inl (np5.go _).weakQ, hK _ _ ?_⟩) | (refine ⟨_, _, Or.inl (np8.go _), (by first | exact ⟨[], (List.append_nil _).symm⟩ | exact ⟨_, rfl⟩), hK _ _ ?_⟩) | (refine ⟨_, _, Or.inl (np8.go _), hK _ _ ?_⟩) | (refine ⟨_, _, Or.inl (np8.go _).weakQ, hK _ _ ?_⟩) | (refine ⟨_, _, Or.inl (np11.go _), (by first | exact ⟨[], (List.append_nil _).symm⟩ | exact ⟨_, rfl⟩), hK _ _ ?_⟩) | (refine ⟨_, _, Or.inl (np11.go _), hK _ _ ?_⟩) | (refine ⟨_, _, Or.inl (np11.go _).weakQ, hK _ _ ?_⟩) | (refine ⟨_, _, Or.inl (np14.go _), (by first | exact ⟨[], (List.append_nil _).symm⟩ | exact ⟨_, rfl⟩), hK _ _ ?_⟩) | (refine ⟨_, _, Or.inl (np14.go _), hK _ _ ?_⟩) | (refine ⟨_, _, Or.inl (np14.go _).weakQ, hK _ _ ?_⟩) | (refine ⟨_, _, Or.inl (np17.go _), (by first | exact ⟨[], (List.append_nil _).symm⟩ | exact ⟨_, rfl⟩), hK _ _ ?_⟩) | (refine ⟨_, _, Or.inl (np17.go _), hK _ _ ?_⟩) | (refine ⟨_, _, Or.inl (np17.go _).weakQ, hK _ _ ?_⟩) | (refine ⟨_, _, Or.inl (gp.go _), (by first | exact ⟨[], (List.append_nil _).symm⟩ | exact ⟨_, rfl⟩), hK _ _ ?_⟩) | (refine ⟨_, _, Or.inl (gp.go _), hK _ _ ?_⟩) | (refine ⟨_, _, Or.inl (gp.go _).weakQ, hK _ _ ?_⟩) | (refine ⟨_, _, Or.inl (sp.go _), (by first | exact ⟨[], (List.append_nil _).symm⟩ | exact ⟨_, rfl⟩), hK _ _ ?_⟩) | (refine ⟨_, _, Or.inl (sp.go _), hK _ _ ?_⟩) | (refine ⟨_, _, Or.inl (sp.go _).weakQ, hK _ _ ?_⟩) | (refine ⟨_, _, Or.inl (tp.go _), (by first | exact ⟨[], (List.append_nil _).symm⟩ | exact ⟨_, rfl⟩), hK _ _ ?_⟩) | (refine ⟨_, _, Or.inl (tp.go _), hK _ _ ?_⟩) | (refine ⟨_, _, Or.inl (tp.go _).weakQ, hK _ _ ?_⟩)); clear hK K)
    | (with_reducible refine lops_nil ?_)
    | (with_reducible refine lavc_reg ?_)
    | (with_reducible refine lavc_seq ?_)
    | (with_reducible refine lavc_block ?_)
    | (with_reducible refine lavc_skip ?_)
    | (with_reducible refine lavc_exit ?_)
    | (with_reducible refine lavc_ret ?_)
    | (with_reducible refine lavcR_round ?_)
    | (refine lavc_cond rfl (fun _ => ?_) (fun hc => absurd hc (by decide)))
    | (refine lavc_cond rfl (fun hc => absurd hc (by decide)) (fun _ => ?_))
    | (simp only [↓reduceIte, Nat.reduceEqDiff, reduceCtorEq]))
  refine And.intro (by simp) ?_
  simp (disch := first | omega | (simp only [go_sem, isRow, isFlat, Option.isSome_some]; done) | assumption | (simp only [ints_length, List.length_replicate, List.length_set, List.length_append, List.length_take, List.length_drop, List.length_cons, List.length_nil] <;> omega) | fail) only [go_sem, Nat.reduceAdd, Nat.reduceSub, reduceIte, Nat.reduceEqDiff, Int.reduceToNat, Int.reduceBEq, Int.reduceBNe, aret, aretL, aret1, aenv]
  (repeat (with_reducible refine And.intro (by first | omega | rfl | assumption | decide) ?_))
  exact end0 (NR.t2 _ _) rfl
theorem Read_25 (s : ByteArray) (hF : Formed s) (hs : s.size = 25) : PCall Tryd.prog glob 11 [.v (.string s)] (.tup [iv (readP s).1, iv (readP s).2]) := by
  have hF0 := hF
  refine PCall.of ctx.nr (by (repeat (refine List.forall_mem_cons.2 (And.intro (by first | exact NR.v _ | exact NR.agg (NR.ints _ _) | exact NR.vsl (NR.ints _ _) | exact NR.vptr (NR.ints _ _) | assumption) ?_))); exact fun _ h => absurd h List.not_mem_nil) (NR.t2 _ _) ?_
  refine lcall11 (by simp) 0 (Nat.le_refl _) ?_
  unfold lc11
  simp only [List.length_cons, List.length_nil, Nat.reduceAdd, Nat.reduceSub, List.replicate_succ, List.replicate_zero, List.cons_append, List.nil_append]
  have hif : (if (s.size : Int) < 19 then (s.size : Int) else 19) = ((19 : Nat) : Int) := by
    split <;> omega
  have hif2 : (if (19 : Int) < (s.size : Int) then (19 : Int) else (s.size : Int)) = ((19 : Nat) : Int) := by
    split <;> omega
  have hfo := (formed_iff s 19 (by omega)).1 hF
  have hmi := mom_in hF.1
  obtain ⟨hd19, hcase⟩ := hF
  obtain ⟨h0, _, h5, _, h8, _, h11, _, h14, _, h17⟩ := hd19
  have hz0 : (s.extract 0 19).size ≤ 1000000 := by rw [ext_size]; omega
  have f0 := fits_p (s.extract 0 19) F19 hz0 (by decide)
  rw [decide_eq_true hfo.1] at f0
  have np0 := num4_p s (by omega) h0
  have np5 := num2_p s 5 7 rfl (by omega) h5
  have np8 := num2_p s 8 10 rfl (by omega) h8
  have np11 := num2_p s 11 13 rfl (by omega) h11
  have np14 := num2_p s 14 16 rfl (by omega) h14
  have np17 := num2_p s 17 19 rfl (by omega) h17
  have gp := good_p (momS s) (by show -9223372036854775808 ≤ n2 s 5 ∧ n2 s 5 ≤ 9223372036854775807; omega)
  rw [goodP_ok (momS s) (by show 0 ≤ n2 s 11; omega) (by show 0 ≤ n2 s 14; omega) (by show 0 ≤ n2 s 17; omega)] at gp
  have emv : mv (momS s) = .agg (ints .i64 [n4 s 0, n2 s 5, n2 s 8, n2 s 11, n2 s 14, n2 s 17]) := rfl
  rw [emv] at gp
  have bm : ∀ a b c d e f : Int, (((List.take 0 (List.replicate 6 0) ++ (((List.replicate 3 0).set 0 a).set 1 b).set 2 c ++ List.drop 3 (List.replicate 6 0)).set 3 d).set 4 e).set 5 f = [a, b, c, d, e, f] := fun _ _ _ _ _ _ => rfl
  have hb0 := bt_ext s 19 s.size 0 (by omega)
  rw [Nat.add_zero] at hb0
  have hez : (s.extract 19 s.size).size = s.size - 19 := by rw [ext_size]; omega
  have hE25 : E25 s := by rcases hcase with h | h; omega; exact h.2
  obtain ⟨hsg, h20, h22, h23⟩ := hE25
  have hz1 : (s.extract 19 s.size).size ≤ 1000000 := by omega
  have f1 := fits_p (s.extract 19 s.size) FP hz1 (by decide)
  have f2 := fits_p (s.extract 19 s.size) FM hz1 (by decide)
  have b1 : ∀ i, 19 + i < s.size → bt (s.extract 19 s.size) i = bt s (19 + i) := fun i hi => bt_ext s 19 s.size i hi
  have hE1 : ¬ (s.extract 19 s.size = ⟨#[90]⟩) := fun h => by
    have h1 : (s.extract 19 s.size).size = 1 := by rw [h]; rfl
    omega
  have n20 := n2_in h20
  have n23 := n2_in h23
  obtain ⟨E, hE⟩ : ∃ E, s.extract 19 s.size = E := ⟨_, rfl⟩
  rw [hE] at f1 f2 hfo b1 hE1 hez hb0
  have e20 : n2 E 1 = n2 s 20 := by unfold n2; rw [b1 1 (by omega), b1 2 (by omega)]
  have e23 : n2 E 4 = n2 s 23 := by unfold n2; rw [b1 4 (by omega), b1 5 (by omega)]
  have hes : E.size = 6 := by omega
  have dE1 : dg E 1 ∧ dg E (1 + 1) := by unfold dg; rw [b1 1 (by omega), b1 (1 + 1) (by omega)]; exact h20
  have dE4 : dg E 4 ∧ dg E (4 + 1) := by unfold dg; rw [b1 4 (by omega), b1 (4 + 1) (by omega)]; exact h23
  have np1 := num2_p E 1 3 rfl (by omega) dE1
  have np4 := num2_p E 4 6 rfl (by omega) dE4
  rw [e20] at np1
  rw [e23] at np4
  have q : (E.toList == (⟨#[90]⟩ : ByteArray).toList) = false := by rw [str_beq, decide_eq_false hE1]
  have hbE : ((E.data.toList.getD 0 0).toNat : Int) = bt s 19 := hb0
  obtain ⟨A, hA⟩ : ∃ A, n2 s 20 = A := ⟨_, rfl⟩
  obtain ⟨M, hM⟩ : ∃ M, n2 s 23 = M := ⟨_, rfl⟩
  have w1 := i64z (A * 3600) (by omega)
  have w2 := i64z (M * 60) (by omega)
  have w4 := i64z (A * 3600 + M * 60) (by omega)
  rw [hA] at np1
  rw [hM] at np4
  rcases hsg with hsg | hsg
  · have g1 : Fits E FP := (fitsP E).2 ⟨hes, by unfold DSh; rw [b1 0 (by omega), b1 3 (by omega)]; exact ⟨hsg, dE1, h22, dE4⟩⟩
    rw [decide_eq_true g1] at f1
    have q0 : ((bt s 19 : Int) == 43) = true := by rw [hsg]; rfl
    by_cases ho1 : 23 < A
    · have d1 : decide (A > 23) = true := by rw [decide_eq_true_eq]; omega
      have er : readP s = (0, 12) := by unfold readP; rw [if_neg (not_not_intro hF0), if_pos ⟨hs, by rw [hA]; exact .inl ho1⟩]
      rw [er]
      repeat (first
        | (with_reducible refine lops_step fun K hK => ?_; simp (disch := first | omega | (simp only [go_sem, isRow, isFlat, Option.isSome_some]; done) | assumption | (simp only [ints_length, List.length_replicate, List.length_set, List.length_append, List.length_take, List.length_drop, List.length_cons, List.length_nil] <;> omega) | fail) only [go_sem, Nat.reduceAdd, Nat.reduceSub, reduceIte, Nat.reduceEqDiff, Int.reduceToNat, Int.reduceBEq, Int.reduceBNe, d1, bm, hif, hif2, hE, q, q0, hbE, hes, w1, w2, w4]; (try (first | (refine And.intro (fun _ => ?_) (fun h => absurd h (by decide))) | (refine And.intro (fun h => absurd h (by decide)) (fun _ => ?_)))); (repeat (with_reducible refine And.intro (by first | omega | rfl | assumption | decide) ?_)); (first | (refine hK _ _ ?_) | (refine ⟨_, rfl, hK _ _ ?_⟩) | (refine Or.inl (hK _ _ ?_)) | (refine ⟨_, _, Or.inl (f0.go _), (by first | exact ⟨[], (List.append_nil _).symm⟩ | exact ⟨_, rfl⟩), hK _ _ ?_⟩) | (refine ⟨_, _, Or.inl (f0.go _), hK _ _ ?_⟩) | (refine ⟨_, _, Or.inl (f0.go _).weakQ, hK _ _ ?_⟩) | (refine ⟨_, _, Or.inl (np0.go _), (by first | exact ⟨[], (List.append_nil _).symm⟩ | exact ⟨_, rfl⟩), hK _ _ ?_⟩) | (refine ⟨_, _, Or.inl (np0.go _), hK _ _ ?_⟩) | (refine ⟨_, _, Or.inl (np0.go _).weakQ, hK _ _ ?_⟩) | (refine ⟨_, _, Or.inl (np5.go _), (by first | exact ⟨[], (List.append_nil _).symm⟩ | exact ⟨_, rfl⟩), hK _ _ ?_⟩) | (refine ⟨_, _, Or.inl (np5.go _), hK _ _ ?_⟩) | (refine ⟨_, _, Or.inl (np5.go _).weakQ, hK _ _ ?_⟩) | (refine ⟨_, _, Or.inl (np8.go _), (by first | exact ⟨[], (List.append_nil _).symm⟩ | exact ⟨_, rfl⟩), hK _ _ ?_⟩) | (refine ⟨_, _, Or.inl (np8.go _), hK _ _ ?_⟩) | (refine ⟨_, _, Or.inl (np8.go _).weakQ, hK _ _ ?_⟩) | (refine ⟨_, _, Or.inl (np11.go _), (by first | exact ⟨[], (List.append_nil _).symm⟩ | exact ⟨_, rfl⟩), hK _ _ ?_⟩) | (refine ⟨_, _, Or.inl (np11.go _), hK _ _ ?_⟩) | (refine ⟨_, _, Or.inl (np11.go _).weakQ, hK _ _ ?_⟩) | (refine ⟨_, _, Or.inl (np14.go _), (by first | exact ⟨[], (List.append_nil _).symm⟩ | exact ⟨_, rfl⟩), hK _ _ ?_⟩) | (refine ⟨_, _, Or.inl (np14.go _), hK _ _ ?_⟩) | (refine ⟨_, _, Or.inl (np14.go _).weakQ, hK _ _ ?_⟩) | (refine ⟨_, _, Or.inl (np17.go _), (by first | exact ⟨[], (List.append_nil _).symm⟩ | exact ⟨_, rfl⟩), hK _ _ ?_⟩) | (refine ⟨_, _, Or.inl (np17.go _), hK _ _ ?_⟩) | (refine ⟨_, _, Or.inl (np17.go _).weakQ, hK _ _ ?_⟩) | (refine ⟨_, _, Or.inl (gp.go _), (by first | exact ⟨[], (List.append_nil _).symm⟩ | exact ⟨_, rfl⟩), hK _ _ ?_⟩) | (refine ⟨_, _, Or.inl (gp.go _), hK _ _ ?_⟩) | (refine ⟨_, _, Or.inl (gp.go _).weakQ, hK _ _ ?_⟩) | (refine ⟨_, _, Or.inl (f1.go _), (by first | exact ⟨[], (List.append_nil _).symm⟩ | exact ⟨_, rfl⟩), hK _ _ ?_⟩) | (refine ⟨_, _, Or.inl (f1.go _), hK _ _ ?_⟩) | (refine ⟨_, _, Or.inl (f1.go _).weakQ, hK _ _ ?_⟩) | (refine ⟨_, _, Or.inl (f2.go _), (by first | exact ⟨[], (List.append_nil _).symm⟩ | exact ⟨_, rfl⟩), hK _ _ ?_⟩) | (refine ⟨_, _, Or.inl (f2.go _), hK _ _ ?_⟩) | (refine ⟨_, _, Or.inl (f2.go _).weakQ, hK _ _ ?_⟩) | (refine ⟨_, _, Or.inl (np1.go _), (by first | exact ⟨[], (List.append_nil _).symm⟩ | exact ⟨_, rfl⟩), hK _ _ ?_⟩) | (refine ⟨_, _, Or.inl (np1.go _), hK _ _ ?_⟩) | (refine ⟨_, _, Or.inl (np1.go _).weakQ, hK _ _ ?_⟩) | (refine ⟨_, _, Or.inl (np4.go _), (by first | exact ⟨[], (List.append_nil _).symm⟩ | exact ⟨_, rfl⟩), hK _ _ ?_⟩) | (refine ⟨_, _, Or.inl (np4.go _), hK _ _ ?_⟩) | (refine ⟨_, _, Or.inl (np4.go _).weakQ, hK _ _ ?_⟩)); clear hK K)
        | (with_reducible refine lops_nil ?_)
        | (with_reducible refine lavc_reg ?_)
        | (with_reducible refine lavc_seq ?_)
        | (with_reducible refine lavc_block ?_)
        | (with_reducible refine lavc_skip ?_)
        | (with_reducible refine lavc_exit ?_)
        | (with_reducible refine lavc_ret ?_)
        | (with_reducible refine lavcR_round ?_)
        | (refine lavc_cond rfl (fun _ => ?_) (fun hc => absurd hc (by decide)))
        | (refine lavc_cond rfl (fun hc => absurd hc (by decide)) (fun _ => ?_))
        | (simp only [↓reduceIte, Nat.reduceEqDiff, reduceCtorEq]))
      refine And.intro (by simp) ?_
      simp (disch := first | omega | (simp only [go_sem, isRow, isFlat, Option.isSome_some]; done) | assumption | (simp only [ints_length, List.length_replicate, List.length_set, List.length_append, List.length_take, List.length_drop, List.length_cons, List.length_nil] <;> omega) | fail) only [go_sem, Nat.reduceAdd, Nat.reduceSub, reduceIte, Nat.reduceEqDiff, Int.reduceToNat, Int.reduceBEq, Int.reduceBNe, aret, aretL, aret1, aenv]
      (repeat (with_reducible refine And.intro (by first | omega | rfl | assumption | decide) ?_))
      exact end0 (NR.t2 _ _) rfl
    have d1 : decide (A > 23) = false := by rw [decide_eq_false_iff_not]; omega
    by_cases ho2 : 59 < M
    · have d2 : decide (M > 59) = true := by rw [decide_eq_true_eq]; omega
      have er : readP s = (0, 12) := by unfold readP; rw [if_neg (not_not_intro hF0), if_pos ⟨hs, by rw [hM]; exact .inr ho2⟩]
      rw [er]
      repeat (first
        | (with_reducible refine lops_step fun K hK => ?_; simp (disch := first | omega | (simp only [go_sem, isRow, isFlat, Option.isSome_some]; done) | assumption | (simp only [ints_length, List.length_replicate, List.length_set, List.length_append, List.length_take, List.length_drop, List.length_cons, List.length_nil] <;> omega) | fail) only [go_sem, Nat.reduceAdd, Nat.reduceSub, reduceIte, Nat.reduceEqDiff, Int.reduceToNat, Int.reduceBEq, Int.reduceBNe, d1, d2, bm, hif, hif2, hE, q, q0, hbE, hes, w1, w2, w4]; (try (first | (refine And.intro (fun _ => ?_) (fun h => absurd h (by decide))) | (refine And.intro (fun h => absurd h (by decide)) (fun _ => ?_)))); (repeat (with_reducible refine And.intro (by first | omega | rfl | assumption | decide) ?_)); (first | (refine hK _ _ ?_) | (refine ⟨_, rfl, hK _ _ ?_⟩) | (refine Or.inl (hK _ _ ?_)) | (refine ⟨_, _, Or.inl (f0.go _), (by first | exact ⟨[], (List.append_nil _).symm⟩ | exact ⟨_, rfl⟩), hK _ _ ?_⟩) | (refine ⟨_, _, Or.inl (f0.go _), hK _ _ ?_⟩) | (refine ⟨_, _, Or.inl (f0.go _).weakQ, hK _ _ ?_⟩) | (refine ⟨_, _, Or.inl (np0.go _), (by first | exact ⟨[], (List.append_nil _).symm⟩ | exact ⟨_, rfl⟩), hK _ _ ?_⟩) | (refine ⟨_, _, Or.inl (np0.go _), hK _ _ ?_⟩) | (refine ⟨_, _, Or.inl (np0.go _).weakQ, hK _ _ ?_⟩) | (refine ⟨_, _, Or.inl (np5.go _), (by first | exact ⟨[], (List.append_nil _).symm⟩ | exact ⟨_, rfl⟩), hK _ _ ?_⟩) | (refine ⟨_, _, Or.inl (np5.go _), hK _ _ ?_⟩) | (refine ⟨_, _, Or.inl (np5.go _).weakQ, hK _ _ ?_⟩) | (refine ⟨_, _, Or.inl (np8.go _), (by first | exact ⟨[], (List.append_nil _).symm⟩ | exact ⟨_, rfl⟩), hK _ _ ?_⟩) | (refine ⟨_, _, Or.inl (np8.go _), hK _ _ ?_⟩) | (refine ⟨_, _, Or.inl (np8.go _).weakQ, hK _ _ ?_⟩) | (refine ⟨_, _, Or.inl (np11.go _), (by first | exact ⟨[], (List.append_nil _).symm⟩ | exact ⟨_, rfl⟩), hK _ _ ?_⟩) | (refine ⟨_, _, Or.inl (np11.go _), hK _ _ ?_⟩) | (refine ⟨_, _, Or.inl (np11.go _).weakQ, hK _ _ ?_⟩) | (refine ⟨_, _, Or.inl (np14.go _), (by first | exact ⟨[], (List.append_nil _).symm⟩ | exact ⟨_, rfl⟩), hK _ _ ?_⟩) | (refine ⟨_, _, Or.inl (np14.go _), hK _ _ ?_⟩) | (refine ⟨_, _, Or.inl (np14.go _).weakQ, hK _ _ ?_⟩) | (refine ⟨_, _, Or.inl (np17.go _), (by first | exact ⟨[], (List.append_nil _).symm⟩ | exact ⟨_, rfl⟩), hK _ _ ?_⟩) | (refine ⟨_, _, Or.inl (np17.go _), hK _ _ ?_⟩) | (refine ⟨_, _, Or.inl (np17.go _).weakQ, hK _ _ ?_⟩) | (refine ⟨_, _, Or.inl (gp.go _), (by first | exact ⟨[], (List.append_nil _).symm⟩ | exact ⟨_, rfl⟩), hK _ _ ?_⟩) | (refine ⟨_, _, Or.inl (gp.go _), hK _ _ ?_⟩) | (refine ⟨_, _, Or.inl (gp.go _).weakQ, hK _ _ ?_⟩) | (refine ⟨_, _, Or.inl (f1.go _), (by first | exact ⟨[], (List.append_nil _).symm⟩ | exact ⟨_, rfl⟩), hK _ _ ?_⟩) | (refine ⟨_, _, Or.inl (f1.go _), hK _ _ ?_⟩) | (refine ⟨_, _, Or.inl (f1.go _).weakQ, hK _ _ ?_⟩) | (refine ⟨_, _, Or.inl (f2.go _), (by first | exact ⟨[], (List.append_nil _).symm⟩ | exact ⟨_, rfl⟩), hK _ _ ?_⟩) | (refine ⟨_, _, Or.inl (f2.go _), hK _ _ ?_⟩) | (refine ⟨_, _, Or.inl (f2.go _).weakQ, hK _ _ ?_⟩) | (refine ⟨_, _, Or.inl (np1.go _), (by first | exact ⟨[], (List.append_nil _).symm⟩ | exact ⟨_, rfl⟩), hK _ _ ?_⟩) | (refine ⟨_, _, Or.inl (np1.go _), hK _ _ ?_⟩) | (refine ⟨_, _, Or.inl (np1.go _).weakQ, hK _ _ ?_⟩) | (refine ⟨_, _, Or.inl (np4.go _), (by first | exact ⟨[], (List.append_nil _).symm⟩ | exact ⟨_, rfl⟩), hK _ _ ?_⟩) | (refine ⟨_, _, Or.inl (np4.go _), hK _ _ ?_⟩) | (refine ⟨_, _, Or.inl (np4.go _).weakQ, hK _ _ ?_⟩)); clear hK K)
        | (with_reducible refine lops_nil ?_)
        | (with_reducible refine lavc_reg ?_)
        | (with_reducible refine lavc_seq ?_)
        | (with_reducible refine lavc_block ?_)
        | (with_reducible refine lavc_skip ?_)
        | (with_reducible refine lavc_exit ?_)
        | (with_reducible refine lavc_ret ?_)
        | (with_reducible refine lavcR_round ?_)
        | (refine lavc_cond rfl (fun _ => ?_) (fun hc => absurd hc (by decide)))
        | (refine lavc_cond rfl (fun hc => absurd hc (by decide)) (fun _ => ?_))
        | (simp only [↓reduceIte, Nat.reduceEqDiff, reduceCtorEq]))
      refine And.intro (by simp) ?_
      simp (disch := first | omega | (simp only [go_sem, isRow, isFlat, Option.isSome_some]; done) | assumption | (simp only [ints_length, List.length_replicate, List.length_set, List.length_append, List.length_take, List.length_drop, List.length_cons, List.length_nil] <;> omega) | fail) only [go_sem, Nat.reduceAdd, Nat.reduceSub, reduceIte, Nat.reduceEqDiff, Int.reduceToNat, Int.reduceBEq, Int.reduceBNe, aret, aretL, aret1, aenv]
      (repeat (with_reducible refine And.intro (by first | omega | rfl | assumption | decide) ?_))
      exact end0 (NR.t2 _ _) rfl
    have d2 : decide (M > 59) = false := by rw [decide_eq_false_iff_not]; omega
    have hov : ¬ (s.size = 25 ∧ (23 < n2 s 20 ∨ 59 < n2 s 23)) := by rw [hA, hM]; omega
    have w5 : IntKind.i64.wrap (0 - (A * 3600 + M * 60)) = -(A * 3600 + M * 60) := by rw [i64z _ (by omega)]; omega
    have hsh : shf s = -(A * 3600 + M * 60) := by unfold shf; rw [if_neg (by omega), if_pos hsg, hA, hM]
    by_cases hok : ¬ (momS s).ok
    · rw [decide_eq_false hok] at gp
      have er : readP s = (0, 12) := by unfold readP; rw [if_neg (not_not_intro hF0), if_neg hov, if_pos hok]
      rw [er]
      repeat (first
        | (with_reducible refine lops_step fun K hK => ?_; simp (disch := first | omega | (simp only [go_sem, isRow, isFlat, Option.isSome_some]; done) | assumption | (simp only [ints_length, List.length_replicate, List.length_set, List.length_append, List.length_take, List.length_drop, List.length_cons, List.length_nil] <;> omega) | fail) only [go_sem, Nat.reduceAdd, Nat.reduceSub, reduceIte, Nat.reduceEqDiff, Int.reduceToNat, Int.reduceBEq, Int.reduceBNe, d1, d2, w5, bm, hif, hif2, hE, q, q0, hbE, hes, w1, w2, w4]; (try (first | (refine And.intro (fun _ => ?_) (fun h => absurd h (by decide))) | (refine And.intro (fun h => absurd h (by decide)) (fun _ => ?_)))); (repeat (with_reducible refine And.intro (by first | omega | rfl | assumption | decide) ?_)); (first | (refine hK _ _ ?_) | (refine ⟨_, rfl, hK _ _ ?_⟩) | (refine Or.inl (hK _ _ ?_)) | (refine ⟨_, _, Or.inl (f0.go _), (by first | exact ⟨[], (List.append_nil _).symm⟩ | exact ⟨_, rfl⟩), hK _ _ ?_⟩) | (refine ⟨_, _, Or.inl (f0.go _), hK _ _ ?_⟩) | (refine ⟨_, _, Or.inl (f0.go _).weakQ, hK _ _ ?_⟩) | (refine ⟨_, _, Or.inl (np0.go _), (by first | exact ⟨[], (List.append_nil _).symm⟩ | exact ⟨_, rfl⟩), hK _ _ ?_⟩) | (refine ⟨_, _, Or.inl (np0.go _), hK _ _ ?_⟩) | (refine ⟨_, _, Or.inl (np0.go _).weakQ, hK _ _ ?_⟩) | (refine ⟨_, _, Or.inl (np5.go _), (by first | exact ⟨[], (List.append_nil _).symm⟩ | exact ⟨_, rfl⟩), hK _ _ ?_⟩) | (refine ⟨_, _, Or.inl (np5.go _), hK _ _ ?_⟩) | (refine ⟨_, _, Or.inl (np5.go _).weakQ, hK _ _ ?_⟩) | (refine ⟨_, _, Or.inl (np8.go _), (by first | exact ⟨[], (List.append_nil _).symm⟩ | exact ⟨_, rfl⟩), hK _ _ ?_⟩) | (refine ⟨_, _, Or.inl (np8.go _), hK _ _ ?_⟩) | (refine ⟨_, _, Or.inl (np8.go _).weakQ, hK _ _ ?_⟩) | (refine ⟨_, _, Or.inl (np11.go _), (by first | exact ⟨[], (List.append_nil _).symm⟩ | exact ⟨_, rfl⟩), hK _ _ ?_⟩) | (refine ⟨_, _, Or.inl (np11.go _), hK _ _ ?_⟩) | (refine ⟨_, _, Or.inl (np11.go _).weakQ, hK _ _ ?_⟩) | (refine ⟨_, _, Or.inl (np14.go _), (by first | exact ⟨[], (List.append_nil _).symm⟩ | exact ⟨_, rfl⟩), hK _ _ ?_⟩) | (refine ⟨_, _, Or.inl (np14.go _), hK _ _ ?_⟩) | (refine ⟨_, _, Or.inl (np14.go _).weakQ, hK _ _ ?_⟩) | (refine ⟨_, _, Or.inl (np17.go _), (by first | exact ⟨[], (List.append_nil _).symm⟩ | exact ⟨_, rfl⟩), hK _ _ ?_⟩) | (refine ⟨_, _, Or.inl (np17.go _), hK _ _ ?_⟩) | (refine ⟨_, _, Or.inl (np17.go _).weakQ, hK _ _ ?_⟩) | (refine ⟨_, _, Or.inl (gp.go _), (by first | exact ⟨[], (List.append_nil _).symm⟩ | exact ⟨_, rfl⟩), hK _ _ ?_⟩) | (refine ⟨_, _, Or.inl (gp.go _), hK _ _ ?_⟩) | (refine ⟨_, _, Or.inl (gp.go _).weakQ, hK _ _ ?_⟩) | (refine ⟨_, _, Or.inl (f1.go _), (by first | exact ⟨[], (List.append_nil _).symm⟩ | exact ⟨_, rfl⟩), hK _ _ ?_⟩) | (refine ⟨_, _, Or.inl (f1.go _), hK _ _ ?_⟩) | (refine ⟨_, _, Or.inl (f1.go _).weakQ, hK _ _ ?_⟩) | (refine ⟨_, _, Or.inl (f2.go _), (by first | exact ⟨[], (List.append_nil _).symm⟩ | exact ⟨_, rfl⟩), hK _ _ ?_⟩) | (refine ⟨_, _, Or.inl (f2.go _), hK _ _ ?_⟩) | (refine ⟨_, _, Or.inl (f2.go _).weakQ, hK _ _ ?_⟩) | (refine ⟨_, _, Or.inl (np1.go _), (by first | exact ⟨[], (List.append_nil _).symm⟩ | exact ⟨_, rfl⟩), hK _ _ ?_⟩) | (refine ⟨_, _, Or.inl (np1.go _), hK _ _ ?_⟩) | (refine ⟨_, _, Or.inl (np1.go _).weakQ, hK _ _ ?_⟩) | (refine ⟨_, _, Or.inl (np4.go _), (by first | exact ⟨[], (List.append_nil _).symm⟩ | exact ⟨_, rfl⟩), hK _ _ ?_⟩) | (refine ⟨_, _, Or.inl (np4.go _), hK _ _ ?_⟩) | (refine ⟨_, _, Or.inl (np4.go _).weakQ, hK _ _ ?_⟩)); clear hK K)
        | (with_reducible refine lops_nil ?_)
        | (with_reducible refine lavc_reg ?_)
        | (with_reducible refine lavc_seq ?_)
        | (with_reducible refine lavc_block ?_)
        | (with_reducible refine lavc_skip ?_)
        | (with_reducible refine lavc_exit ?_)
        | (with_reducible refine lavc_ret ?_)
        | (with_reducible refine lavcR_round ?_)
        | (refine lavc_cond rfl (fun _ => ?_) (fun hc => absurd hc (by decide)))
        | (refine lavc_cond rfl (fun hc => absurd hc (by decide)) (fun _ => ?_))
        | (simp only [↓reduceIte, Nat.reduceEqDiff, reduceCtorEq]))
      refine And.intro (by simp) ?_
      simp (disch := first | omega | (simp only [go_sem, isRow, isFlat, Option.isSome_some]; done) | assumption | (simp only [ints_length, List.length_replicate, List.length_set, List.length_append, List.length_take, List.length_drop, List.length_cons, List.length_nil] <;> omega) | fail) only [go_sem, Nat.reduceAdd, Nat.reduceSub, reduceIte, Nat.reduceEqDiff, Int.reduceToNat, Int.reduceBEq, Int.reduceBNe, aret, aretL, aret1, aenv]
      (repeat (with_reducible refine And.intro (by first | omega | rfl | assumption | decide) ?_))
      exact end0 (NR.t2 _ _) rfl
    replace hok := Decidable.not_not.1 hok
    rw [decide_eq_true hok] at gp
    have sp := seconds_p (momS s) hok
    rw [emv] at sp
    have hsi := secs_in hok
    unfold tFirst tLast at hsi
    have w3 := i64z (secs (momS s) + (-(A * 3600 + M * 60))) (by omega)
    have tp := time_p (secs (momS s) + (-(A * 3600 + M * 60)))
    obtain ⟨N, hN⟩ : ∃ N, secs (momS s) = N := ⟨_, rfl⟩
    by_cases ht : ¬ (tFirst ≤ secs (momS s) + (-(A * 3600 + M * 60)) ∧ secs (momS s) + (-(A * 3600 + M * 60)) ≤ tLast)
    · rw [decide_eq_false ht] at tp
      have er : readP s = (0, 12) := by unfold readP; rw [if_neg (not_not_intro hF0), if_neg hov, if_neg (not_not_intro hok), hsh, if_pos ht]
      rw [er]
      rw [hN] at sp tp w3
      repeat (first
        | (with_reducible refine lops_step fun K hK => ?_; simp (disch := first | omega | (simp only [go_sem, isRow, isFlat, Option.isSome_some]; done) | assumption | (simp only [ints_length, List.length_replicate, List.length_set, List.length_append, List.length_take, List.length_drop, List.length_cons, List.length_nil] <;> omega) | fail) only [go_sem, Nat.reduceAdd, Nat.reduceSub, reduceIte, Nat.reduceEqDiff, Int.reduceToNat, Int.reduceBEq, Int.reduceBNe, w3, d1, d2, w5, bm, hif, hif2, hE, q, q0, hbE, hes, w1, w2, w4]; (try (first | (refine And.intro (fun _ => ?_) (fun h => absurd h (by decide))) | (refine And.intro (fun h => absurd h (by decide)) (fun _ => ?_)))); (repeat (with_reducible refine And.intro (by first | omega | rfl | assumption | decide) ?_)); (first | (refine hK _ _ ?_) | (refine ⟨_, rfl, hK _ _ ?_⟩) | (refine Or.inl (hK _ _ ?_)) | (refine ⟨_, _, Or.inl (f0.go _), (by first | exact ⟨[], (List.append_nil _).symm⟩ | exact ⟨_, rfl⟩), hK _ _ ?_⟩) | (refine ⟨_, _, Or.inl (f0.go _), hK _ _ ?_⟩) | (refine ⟨_, _, Or.inl (f0.go _).weakQ, hK _ _ ?_⟩) | (refine ⟨_, _, Or.inl (np0.go _), (by first | exact ⟨[], (List.append_nil _).symm⟩ | exact ⟨_, rfl⟩), hK _ _ ?_⟩) | (refine ⟨_, _, Or.inl (np0.go _), hK _ _ ?_⟩) | (refine ⟨_, _, Or.inl (np0.go _).weakQ, hK _ _ ?_⟩) | (refine ⟨_, _, Or.inl (np5.go _), (by first | exact ⟨[], (List.append_nil _).symm⟩ | exact ⟨_, rfl⟩), hK _ _ ?_⟩) | (refine ⟨_, _, Or.inl (np5.go _), hK _ _ ?_⟩) | (refine ⟨_, _, Or.inl (np5.go _).weakQ, hK _ _ ?_⟩) | (refine ⟨_, _, Or.inl (np8.go _), (by first | exact ⟨[], (List.append_nil _).symm⟩ | exact ⟨_, rfl⟩), hK _ _ ?_⟩) | (refine ⟨_, _, Or.inl (np8.go _), hK _ _ ?_⟩) | (refine ⟨_, _, Or.inl (np8.go _).weakQ, hK _ _ ?_⟩) | (refine ⟨_, _, Or.inl (np11.go _), (by first | exact ⟨[], (List.append_nil _).symm⟩ | exact ⟨_, rfl⟩), hK _ _ ?_⟩) | (refine ⟨_, _, Or.inl (np11.go _), hK _ _ ?_⟩) | (refine ⟨_, _, Or.inl (np11.go _).weakQ, hK _ _ ?_⟩) | (refine ⟨_, _, Or.inl (np14.go _), (by first | exact ⟨[], (List.append_nil _).symm⟩ | exact ⟨_, rfl⟩), hK _ _ ?_⟩) | (refine ⟨_, _, Or.inl (np14.go _), hK _ _ ?_⟩) | (refine ⟨_, _, Or.inl (np14.go _).weakQ, hK _ _ ?_⟩) | (refine ⟨_, _, Or.inl (np17.go _), (by first | exact ⟨[], (List.append_nil _).symm⟩ | exact ⟨_, rfl⟩), hK _ _ ?_⟩) | (refine ⟨_, _, Or.inl (np17.go _), hK _ _ ?_⟩) | (refine ⟨_, _, Or.inl (np17.go _).weakQ, hK _ _ ?_⟩) | (refine ⟨_, _, Or.inl (gp.go _), (by first | exact ⟨[], (List.append_nil _).symm⟩ | exact ⟨_, rfl⟩), hK _ _ ?_⟩) | (refine ⟨_, _, Or.inl (gp.go _), hK _ _ ?_⟩) | (refine ⟨_, _, Or.inl (gp.go _).weakQ, hK _ _ ?_⟩) | (refine ⟨_, _, Or.inl (f1.go _), (by first | exact ⟨[], (List.append_nil _).symm⟩ | exact ⟨_, rfl⟩), hK _ _ ?_⟩) | (refine ⟨_, _, Or.inl (f1.go _), hK _ _ ?_⟩) | (refine ⟨_, _, Or.inl (f1.go _).weakQ, hK _ _ ?_⟩) | (refine ⟨_, _, Or.inl (f2.go _), (by first | exact ⟨[], (List.append_nil _).symm⟩ | exact ⟨_, rfl⟩), hK _ _ ?_⟩) | (refine ⟨_, _, Or.inl (f2.go _), hK _ _ ?_⟩) | (refine ⟨_, _, Or.inl (f2.go _).weakQ, hK _ _ ?_⟩) | (refine ⟨_, _, Or.inl (np1.go _), (by first | exact ⟨[], (List.append_nil _).symm⟩ | exact ⟨_, rfl⟩), hK _ _ ?_⟩) | (refine ⟨_, _, Or.inl (np1.go _), hK _ _ ?_⟩) | (refine ⟨_, _, Or.inl (np1.go _).weakQ, hK _ _ ?_⟩) | (refine ⟨_, _, Or.inl (np4.go _), (by first | exact ⟨[], (List.append_nil _).symm⟩ | exact ⟨_, rfl⟩), hK _ _ ?_⟩) | (refine ⟨_, _, Or.inl (np4.go _), hK _ _ ?_⟩) | (refine ⟨_, _, Or.inl (np4.go _).weakQ, hK _ _ ?_⟩) | (refine ⟨_, _, Or.inl (sp.go _), (by first | exact ⟨[], (List.append_nil _).symm⟩ | exact ⟨_, rfl⟩), hK _ _ ?_⟩) | (refine ⟨_, _, Or.inl (sp.go _), hK _ _ ?_⟩) | (refine ⟨_, _, Or.inl (sp.go _).weakQ, hK _ _ ?_⟩) | (refine ⟨_, _, Or.inl (tp.go _), (by first | exact ⟨[], (List.append_nil _).symm⟩ | exact ⟨_, rfl⟩), hK _ _ ?_⟩) | (refine ⟨_, _, Or.inl (tp.go _), hK _ _ ?_⟩) | (refine ⟨_, _, Or.inl (tp.go _).weakQ, hK _ _ ?_⟩)); clear hK K)
        | (with_reducible refine lops_nil ?_)
        | (with_reducible refine lavc_reg ?_)
        | (with_reducible refine lavc_seq ?_)
        | (with_reducible refine lavc_block ?_)
        | (with_reducible refine lavc_skip ?_)
        | (with_reducible refine lavc_exit ?_)
        | (with_reducible refine lavc_ret ?_)
        | (with_reducible refine lavcR_round ?_)
        | (refine lavc_cond rfl (fun _ => ?_) (fun hc => absurd hc (by decide)))
        | (refine lavc_cond rfl (fun hc => absurd hc (by decide)) (fun _ => ?_))
        | (simp only [↓reduceIte, Nat.reduceEqDiff, reduceCtorEq]))
      refine And.intro (by simp) ?_
      simp (disch := first | omega | (simp only [go_sem, isRow, isFlat, Option.isSome_some]; done) | assumption | (simp only [ints_length, List.length_replicate, List.length_set, List.length_append, List.length_take, List.length_drop, List.length_cons, List.length_nil] <;> omega) | fail) only [go_sem, Nat.reduceAdd, Nat.reduceSub, reduceIte, Nat.reduceEqDiff, Int.reduceToNat, Int.reduceBEq, Int.reduceBNe, aret, aretL, aret1, aenv]
      (repeat (with_reducible refine And.intro (by first | omega | rfl | assumption | decide) ?_))
      exact end0 (NR.t2 _ _) rfl
    replace ht := Decidable.not_not.1 ht
    rw [decide_eq_true ht] at tp
    have er : readP s = (secs (momS s) + (-(A * 3600 + M * 60)), 0) := by unfold readP; rw [if_neg (not_not_intro hF0), if_neg hov, if_neg (not_not_intro hok), hsh, if_neg (not_not_intro ht)]
    rw [er]
    rw [hN] at sp tp w3 ⊢
    repeat (first
      | (with_reducible refine lops_step fun K hK => ?_; simp (disch := first | omega | (simp only [go_sem, isRow, isFlat, Option.isSome_some]; done) | assumption | (simp only [ints_length, List.length_replicate, List.length_set, List.length_append, List.length_take, List.length_drop, List.length_cons, List.length_nil] <;> omega) | fail) only [go_sem, Nat.reduceAdd, Nat.reduceSub, reduceIte, Nat.reduceEqDiff, Int.reduceToNat, Int.reduceBEq, Int.reduceBNe, w3, d1, d2, w5, bm, hif, hif2, hE, q, q0, hbE, hes, w1, w2, w4]; (try (first | (refine And.intro (fun _ => ?_) (fun h => absurd h (by decide))) | (refine And.intro (fun h => absurd h (by decide)) (fun _ => ?_)))); (repeat (with_reducible refine And.intro (by first | omega | rfl | assumption | decide) ?_)); (first | (refine hK _ _ ?_) | (refine ⟨_, rfl, hK _ _ ?_⟩) | (refine Or.inl (hK _ _ ?_)) | (refine ⟨_, _, Or.inl (f0.go _), (by first | exact ⟨[], (List.append_nil _).symm⟩ | exact ⟨_, rfl⟩), hK _ _ ?_⟩) | (refine ⟨_, _, Or.inl (f0.go _), hK _ _ ?_⟩) | (refine ⟨_, _, Or.inl (f0.go _).weakQ, hK _ _ ?_⟩) | (refine ⟨_, _, Or.inl (np0.go _), (by first | exact ⟨[], (List.append_nil _).symm⟩ | exact ⟨_, rfl⟩), hK _ _ ?_⟩) | (refine ⟨_, _, Or.inl (np0.go _), hK _ _ ?_⟩) | (refine ⟨_, _, Or.inl (np0.go _).weakQ, hK _ _ ?_⟩) | (refine ⟨_, _, Or.inl (np5.go _), (by first | exact ⟨[], (List.append_nil _).symm⟩ | exact ⟨_, rfl⟩), hK _ _ ?_⟩) | (refine ⟨_, _, Or.inl (np5.go _), hK _ _ ?_⟩) | (refine ⟨_, _, Or.inl (np5.go _).weakQ, hK _ _ ?_⟩) | (refine ⟨_, _, Or.inl (np8.go _), (by first | exact ⟨[], (List.append_nil _).symm⟩ | exact ⟨_, rfl⟩), hK _ _ ?_⟩) | (refine ⟨_, _, Or.inl (np8.go _), hK _ _ ?_⟩) | (refine ⟨_, _, Or.inl (np8.go _).weakQ, hK _ _ ?_⟩) | (refine ⟨_, _, Or.inl (np11.go _), (by first | exact ⟨[], (List.append_nil _).symm⟩ | exact ⟨_, rfl⟩), hK _ _ ?_⟩) | (refine ⟨_, _, Or.inl (np11.go _), hK _ _ ?_⟩) | (refine ⟨_, _, Or.inl (np11.go _).weakQ, hK _ _ ?_⟩) | (refine ⟨_, _, Or.inl (np14.go _), (by first | exact ⟨[], (List.append_nil _).symm⟩ | exact ⟨_, rfl⟩), hK _ _ ?_⟩) | (refine ⟨_, _, Or.inl (np14.go _), hK _ _ ?_⟩) | (refine ⟨_, _, Or.inl (np14.go _).weakQ, hK _ _ ?_⟩) | (refine ⟨_, _, Or.inl (np17.go _), (by first | exact ⟨[], (List.append_nil _).symm⟩ | exact ⟨_, rfl⟩), hK _ _ ?_⟩) | (refine ⟨_, _, Or.inl (np17.go _), hK _ _ ?_⟩) | (refine ⟨_, _, Or.inl (np17.go _).weakQ, hK _ _ ?_⟩) | (refine ⟨_, _, Or.inl (gp.go _), (by first | exact ⟨[], (List.append_nil _).symm⟩ | exact ⟨_, rfl⟩), hK _ _ ?_⟩) | (refine ⟨_, _, Or.inl (gp.go _), hK _ _ ?_⟩) | (refine ⟨_, _, Or.inl (gp.go _).weakQ, hK _ _ ?_⟩) | (refine ⟨_, _, Or.inl (f1.go _), (by first | exact ⟨[], (List.append_nil _).symm⟩ | exact ⟨_, rfl⟩), hK _ _ ?_⟩) | (refine ⟨_, _, Or.inl (f1.go _), hK _ _ ?_⟩) | (refine ⟨_, _, Or.inl (f1.go _).weakQ, hK _ _ ?_⟩) | (refine ⟨_, _, Or.inl (f2.go _), (by first | exact ⟨[], (List.append_nil _).symm⟩ | exact ⟨_, rfl⟩), hK _ _ ?_⟩) | (refine ⟨_, _, Or.inl (f2.go _), hK _ _ ?_⟩) | (refine ⟨_, _, Or.inl (f2.go _).weakQ, hK _ _ ?_⟩) | (refine ⟨_, _, Or.inl (np1.go _), (by first | exact ⟨[], (List.append_nil _).symm⟩ | exact ⟨_, rfl⟩), hK _ _ ?_⟩) | (refine ⟨_, _, Or.inl (np1.go _), hK _ _ ?_⟩) | (refine ⟨_, _, Or.inl (np1.go _).weakQ, hK _ _ ?_⟩) | (refine ⟨_, _, Or.inl (np4.go _), (by first | exact ⟨[], (List.append_nil _).symm⟩ | exact ⟨_, rfl⟩), hK _ _ ?_⟩) | (refine ⟨_, _, Or.inl (np4.go _), hK _ _ ?_⟩) | (refine ⟨_, _, Or.inl (np4.go _).weakQ, hK _ _ ?_⟩) | (refine ⟨_, _, Or.inl (sp.go _), (by first | exact ⟨[], (List.append_nil _).symm⟩ | exact ⟨_, rfl⟩), hK _ _ ?_⟩) | (refine ⟨_, _, Or.inl (sp.go _), hK _ _ ?_⟩) | (refine ⟨_, _, Or.inl (sp.go _).weakQ, hK _ _ ?_⟩) | (refine ⟨_, _, Or.inl (tp.go _), (by first | exact ⟨[], (List.append_nil _).symm⟩ | exact ⟨_, rfl⟩), hK _ _ ?_⟩) | (refine ⟨_, _, Or.inl (tp.go _), hK _ _ ?_⟩) | (refine ⟨_, _, Or.inl (tp.go _).weakQ, hK _ _ ?_⟩)); clear hK K)
      | (with_reducible refine lops_nil ?_)
      | (with_reducible refine lavc_reg ?_)
      | (with_reducible refine lavc_seq ?_)
      | (with_reducible refine lavc_block ?_)
      | (with_reducible refine lavc_skip ?_)
      | (with_reducible refine lavc_exit ?_)
      | (with_reducible refine lavc_ret ?_)
      | (with_reducible refine lavcR_round ?_)
      | (refine lavc_cond rfl (fun _ => ?_) (fun hc => absurd hc (by decide)))
      | (refine lavc_cond rfl (fun hc => absurd hc (by decide)) (fun _ => ?_))
      | (simp only [↓reduceIte, Nat.reduceEqDiff, reduceCtorEq]))
    refine And.intro (by simp) ?_
    simp (disch := first | omega | (simp only [go_sem, isRow, isFlat, Option.isSome_some]; done) | assumption | (simp only [ints_length, List.length_replicate, List.length_set, List.length_append, List.length_take, List.length_drop, List.length_cons, List.length_nil] <;> omega) | fail) only [go_sem, Nat.reduceAdd, Nat.reduceSub, reduceIte, Nat.reduceEqDiff, Int.reduceToNat, Int.reduceBEq, Int.reduceBNe, aret, aretL, aret1, aenv]
    (repeat (with_reducible refine And.intro (by first | omega | rfl | assumption | decide) ?_))
    exact end0 (NR.t2 _ _) rfl
  · have g1 : ¬ Fits E FP := fun h => by have := ((fitsP E).1 h).2.1; rw [b1 0 (by omega), hsg] at this; omega
    have g2 : Fits E FM := (fitsM E).2 ⟨hes, by unfold DSh; rw [b1 0 (by omega), b1 3 (by omega)]; exact ⟨hsg, dE1, h22, dE4⟩⟩
    rw [decide_eq_false g1] at f1
    rw [decide_eq_true g2] at f2
    have q0 : ((bt s 19 : Int) == 43) = false := by rw [hsg]; rfl
    by_cases ho1 : 23 < A
    · have d1 : decide (A > 23) = true := by rw [decide_eq_true_eq]; omega
      have er : readP s = (0, 12) := by unfold readP; rw [if_neg (not_not_intro hF0), if_pos ⟨hs, by rw [hA]; exact .inl ho1⟩]
      rw [er]
      repeat (first
        | (with_reducible refine lops_step fun K hK => ?_; simp (disch := first | omega | (simp only [go_sem, isRow, isFlat, Option.isSome_some]; done) | assumption | (simp only [ints_length, List.length_replicate, List.length_set, List.length_append, List.length_take, List.length_drop, List.length_cons, List.length_nil] <;> omega) | fail) only [go_sem, Nat.reduceAdd, Nat.reduceSub, reduceIte, Nat.reduceEqDiff, Int.reduceToNat, Int.reduceBEq, Int.reduceBNe, d1, bm, hif, hif2, hE, q, q0, hbE, hes, w1, w2, w4]; (try (first | (refine And.intro (fun _ => ?_) (fun h => absurd h (by decide))) | (refine And.intro (fun h => absurd h (by decide)) (fun _ => ?_)))); (repeat (with_reducible refine And.intro (by first | omega | rfl | assumption | decide) ?_)); (first | (refine hK _ _ ?_) | (refine ⟨_, rfl, hK _ _ ?_⟩) | (refine Or.inl (hK _ _ ?_)) | (refine ⟨_, _, Or.inl (f0.go _), (by first | exact ⟨[], (List.append_nil _).symm⟩ | exact ⟨_, rfl⟩), hK _ _ ?_⟩) | (refine ⟨_, _, Or.inl (f0.go _), hK _ _ ?_⟩) | (refine ⟨_, _, Or.inl (f0.go _).weakQ, hK _ _ ?_⟩) | (refine ⟨_, _, Or.inl (np0.go _), (by first | exact ⟨[], (List.append_nil _).symm⟩ | exact ⟨_, rfl⟩), hK _ _ ?_⟩) | (refine ⟨_, _, Or.inl (np0.go _), hK _ _ ?_⟩) | (refine ⟨_, _, Or.inl (np0.go _).weakQ, hK _ _ ?_⟩) | (refine ⟨_, _, Or.inl (np5.go _), (by first | exact ⟨[], (List.append_nil _).symm⟩ | exact ⟨_, rfl⟩), hK _ _ ?_⟩) | (refine ⟨_, _, Or.inl (np5.go _), hK _ _ ?_⟩) | (refine ⟨_, _, Or.inl (np5.go _).weakQ, hK _ _ ?_⟩) | (refine ⟨_, _, Or.inl (np8.go _), (by first | exact ⟨[], (List.append_nil _).symm⟩ | exact ⟨_, rfl⟩), hK _ _ ?_⟩) | (refine ⟨_, _, Or.inl (np8.go _), hK _ _ ?_⟩) | (refine ⟨_, _, Or.inl (np8.go _).weakQ, hK _ _ ?_⟩) | (refine ⟨_, _, Or.inl (np11.go _), (by first | exact ⟨[], (List.append_nil _).symm⟩ | exact ⟨_, rfl⟩), hK _ _ ?_⟩) | (refine ⟨_, _, Or.inl (np11.go _), hK _ _ ?_⟩) | (refine ⟨_, _, Or.inl (np11.go _).weakQ, hK _ _ ?_⟩) | (refine ⟨_, _, Or.inl (np14.go _), (by first | exact ⟨[], (List.append_nil _).symm⟩ | exact ⟨_, rfl⟩), hK _ _ ?_⟩) | (refine ⟨_, _, Or.inl (np14.go _), hK _ _ ?_⟩) | (refine ⟨_, _, Or.inl (np14.go _).weakQ, hK _ _ ?_⟩) | (refine ⟨_, _, Or.inl (np17.go _), (by first | exact ⟨[], (List.append_nil _).symm⟩ | exact ⟨_, rfl⟩), hK _ _ ?_⟩) | (refine ⟨_, _, Or.inl (np17.go _), hK _ _ ?_⟩) | (refine ⟨_, _, Or.inl (np17.go _).weakQ, hK _ _ ?_⟩) | (refine ⟨_, _, Or.inl (gp.go _), (by first | exact ⟨[], (List.append_nil _).symm⟩ | exact ⟨_, rfl⟩), hK _ _ ?_⟩) | (refine ⟨_, _, Or.inl (gp.go _), hK _ _ ?_⟩) | (refine ⟨_, _, Or.inl (gp.go _).weakQ, hK _ _ ?_⟩) | (refine ⟨_, _, Or.inl (f1.go _), (by first | exact ⟨[], (List.append_nil _).symm⟩ | exact ⟨_, rfl⟩), hK _ _ ?_⟩) | (refine ⟨_, _, Or.inl (f1.go _), hK _ _ ?_⟩) | (refine ⟨_, _, Or.inl (f1.go _).weakQ, hK _ _ ?_⟩) | (refine ⟨_, _, Or.inl (f2.go _), (by first | exact ⟨[], (List.append_nil _).symm⟩ | exact ⟨_, rfl⟩), hK _ _ ?_⟩) | (refine ⟨_, _, Or.inl (f2.go _), hK _ _ ?_⟩) | (refine ⟨_, _, Or.inl (f2.go _).weakQ, hK _ _ ?_⟩) | (refine ⟨_, _, Or.inl (np1.go _), (by first | exact ⟨[], (List.append_nil _).symm⟩ | exact ⟨_, rfl⟩), hK _ _ ?_⟩) | (refine ⟨_, _, Or.inl (np1.go _), hK _ _ ?_⟩) | (refine ⟨_, _, Or.inl (np1.go _).weakQ, hK _ _ ?_⟩) | (refine ⟨_, _, Or.inl (np4.go _), (by first | exact ⟨[], (List.append_nil _).symm⟩ | exact ⟨_, rfl⟩), hK _ _ ?_⟩) | (refine ⟨_, _, Or.inl (np4.go _), hK _ _ ?_⟩) | (refine ⟨_, _, Or.inl (np4.go _).weakQ, hK _ _ ?_⟩)); clear hK K)
        | (with_reducible refine lops_nil ?_)
        | (with_reducible refine lavc_reg ?_)
        | (with_reducible refine lavc_seq ?_)
        | (with_reducible refine lavc_block ?_)
        | (with_reducible refine lavc_skip ?_)
        | (with_reducible refine lavc_exit ?_)
        | (with_reducible refine lavc_ret ?_)
        | (with_reducible refine lavcR_round ?_)
        | (refine lavc_cond rfl (fun _ => ?_) (fun hc => absurd hc (by decide)))
        | (refine lavc_cond rfl (fun hc => absurd hc (by decide)) (fun _ => ?_))
        | (simp only [↓reduceIte, Nat.reduceEqDiff, reduceCtorEq]))
      refine And.intro (by simp) ?_
      simp (disch := first | omega | (simp only [go_sem, isRow, isFlat, Option.isSome_some]; done) | assumption | (simp only [ints_length, List.length_replicate, List.length_set, List.length_append, List.length_take, List.length_drop, List.length_cons, List.length_nil] <;> omega) | fail) only [go_sem, Nat.reduceAdd, Nat.reduceSub, reduceIte, Nat.reduceEqDiff, Int.reduceToNat, Int.reduceBEq, Int.reduceBNe, aret, aretL, aret1, aenv]
      (repeat (with_reducible refine And.intro (by first | omega | rfl | assumption | decide) ?_))
      exact end0 (NR.t2 _ _) rfl
    have d1 : decide (A > 23) = false := by rw [decide_eq_false_iff_not]; omega
    by_cases ho2 : 59 < M
    · have d2 : decide (M > 59) = true := by rw [decide_eq_true_eq]; omega
      have er : readP s = (0, 12) := by unfold readP; rw [if_neg (not_not_intro hF0), if_pos ⟨hs, by rw [hM]; exact .inr ho2⟩]
      rw [er]
      repeat (first
        | (with_reducible refine lops_step fun K hK => ?_; simp (disch := first | omega | (simp only [go_sem, isRow, isFlat, Option.isSome_some]; done) | assumption | (simp only [ints_length, List.length_replicate, List.length_set, List.length_append, List.length_take, List.length_drop, List.length_cons, List.length_nil] <;> omega) | fail) only [go_sem, Nat.reduceAdd, Nat.reduceSub, reduceIte, Nat.reduceEqDiff, Int.reduceToNat, Int.reduceBEq, Int.reduceBNe, d1, d2, bm, hif, hif2, hE, q, q0, hbE, hes, w1, w2, w4]; (try (first | (refine And.intro (fun _ => ?_) (fun h => absurd h (by decide))) | (refine And.intro (fun h => absurd h (by decide)) (fun _ => ?_)))); (repeat (with_reducible refine And.intro (by first | omega | rfl | assumption | decide) ?_)); (first | (refine hK _ _ ?_) | (refine ⟨_, rfl, hK _ _ ?_⟩) | (refine Or.inl (hK _ _ ?_)) | (refine ⟨_, _, Or.inl (f0.go _), (by first | exact ⟨[], (List.append_nil _).symm⟩ | exact ⟨_, rfl⟩), hK _ _ ?_⟩) | (refine ⟨_, _, Or.inl (f0.go _), hK _ _ ?_⟩) | (refine ⟨_, _, Or.inl (f0.go _).weakQ, hK _ _ ?_⟩) | (refine ⟨_, _, Or.inl (np0.go _), (by first | exact ⟨[], (List.append_nil _).symm⟩ | exact ⟨_, rfl⟩), hK _ _ ?_⟩) | (refine ⟨_, _, Or.inl (np0.go _), hK _ _ ?_⟩) | (refine ⟨_, _, Or.inl (np0.go _).weakQ, hK _ _ ?_⟩) | (refine ⟨_, _, Or.inl (np5.go _), (by first | exact ⟨[], (List.append_nil _).symm⟩ | exact ⟨_, rfl⟩), hK _ _ ?_⟩) | (refine ⟨_, _, Or.inl (np5.go _), hK _ _ ?_⟩) | (refine ⟨_, _, Or.inl (np5.go _).weakQ, hK _ _ ?_⟩) | (refine ⟨_, _, Or.inl (np8.go _), (by first | exact ⟨[], (List.append_nil _).symm⟩ | exact ⟨_, rfl⟩), hK _ _ ?_⟩) | (refine ⟨_, _, Or.inl (np8.go _), hK _ _ ?_⟩) | (refine ⟨_, _, Or.inl (np8.go _).weakQ, hK _ _ ?_⟩) | (refine ⟨_, _, Or.inl (np11.go _), (by first | exact ⟨[], (List.append_nil _).symm⟩ | exact ⟨_, rfl⟩), hK _ _ ?_⟩) | (refine ⟨_, _, Or.inl (np11.go _), hK _ _ ?_⟩) | (refine ⟨_, _, Or.inl (np11.go _).weakQ, hK _ _ ?_⟩) | (refine ⟨_, _, Or.inl (np14.go _), (by first | exact ⟨[], (List.append_nil _).symm⟩ | exact ⟨_, rfl⟩), hK _ _ ?_⟩) | (refine ⟨_, _, Or.inl (np14.go _), hK _ _ ?_⟩) | (refine ⟨_, _, Or.inl (np14.go _).weakQ, hK _ _ ?_⟩) | (refine ⟨_, _, Or.inl (np17.go _), (by first | exact ⟨[], (List.append_nil _).symm⟩ | exact ⟨_, rfl⟩), hK _ _ ?_⟩) | (refine ⟨_, _, Or.inl (np17.go _), hK _ _ ?_⟩) | (refine ⟨_, _, Or.inl (np17.go _).weakQ, hK _ _ ?_⟩) | (refine ⟨_, _, Or.inl (gp.go _), (by first | exact ⟨[], (List.append_nil _).symm⟩ | exact ⟨_, rfl⟩), hK _ _ ?_⟩) | (refine ⟨_, _, Or.inl (gp.go _), hK _ _ ?_⟩) | (refine ⟨_, _, Or.inl (gp.go _).weakQ, hK _ _ ?_⟩) | (refine ⟨_, _, Or.inl (f1.go _), (by first | exact ⟨[], (List.append_nil _).symm⟩ | exact ⟨_, rfl⟩), hK _ _ ?_⟩) | (refine ⟨_, _, Or.inl (f1.go _), hK _ _ ?_⟩) | (refine ⟨_, _, Or.inl (f1.go _).weakQ, hK _ _ ?_⟩) | (refine ⟨_, _, Or.inl (f2.go _), (by first | exact ⟨[], (List.append_nil _).symm⟩ | exact ⟨_, rfl⟩), hK _ _ ?_⟩) | (refine ⟨_, _, Or.inl (f2.go _), hK _ _ ?_⟩) | (refine ⟨_, _, Or.inl (f2.go _).weakQ, hK _ _ ?_⟩) | (refine ⟨_, _, Or.inl (np1.go _), (by first | exact ⟨[], (List.append_nil _).symm⟩ | exact ⟨_, rfl⟩), hK _ _ ?_⟩) | (refine ⟨_, _, Or.inl (np1.go _), hK _ _ ?_⟩) | (refine ⟨_, _, Or.inl (np1.go _).weakQ, hK _ _ ?_⟩) | (refine ⟨_, _, Or.inl (np4.go _), (by first | exact ⟨[], (List.append_nil _).symm⟩ | exact ⟨_, rfl⟩), hK _ _ ?_⟩) | (refine ⟨_, _, Or.inl (np4.go _), hK _ _ ?_⟩) | (refine ⟨_, _, Or.inl (np4.go _).weakQ, hK _ _ ?_⟩)); clear hK K)
        | (with_reducible refine lops_nil ?_)
        | (with_reducible refine lavc_reg ?_)
        | (with_reducible refine lavc_seq ?_)
        | (with_reducible refine lavc_block ?_)
        | (with_reducible refine lavc_skip ?_)
        | (with_reducible refine lavc_exit ?_)
        | (with_reducible refine lavc_ret ?_)
        | (with_reducible refine lavcR_round ?_)
        | (refine lavc_cond rfl (fun _ => ?_) (fun hc => absurd hc (by decide)))
        | (refine lavc_cond rfl (fun hc => absurd hc (by decide)) (fun _ => ?_))
        | (simp only [↓reduceIte, Nat.reduceEqDiff, reduceCtorEq]))
      refine And.intro (by simp) ?_
      simp (disch := first | omega | (simp only [go_sem, isRow, isFlat, Option.isSome_some]; done) | assumption | (simp only [ints_length, List.length_replicate, List.length_set, List.length_append, List.length_take, List.length_drop, List.length_cons, List.length_nil] <;> omega) | fail) only [go_sem, Nat.reduceAdd, Nat.reduceSub, reduceIte, Nat.reduceEqDiff, Int.reduceToNat, Int.reduceBEq, Int.reduceBNe, aret, aretL, aret1, aenv]
      (repeat (with_reducible refine And.intro (by first | omega | rfl | assumption | decide) ?_))
      exact end0 (NR.t2 _ _) rfl
    have d2 : decide (M > 59) = false := by rw [decide_eq_false_iff_not]; omega
    have hov : ¬ (s.size = 25 ∧ (23 < n2 s 20 ∨ 59 < n2 s 23)) := by rw [hA, hM]; omega
    have w5 := trivial
    have hsh : shf s = A * 3600 + M * 60 := by unfold shf; rw [if_neg (by omega), if_neg (by omega), hA, hM]
    by_cases hok : ¬ (momS s).ok
    · rw [decide_eq_false hok] at gp
      have er : readP s = (0, 12) := by unfold readP; rw [if_neg (not_not_intro hF0), if_neg hov, if_pos hok]
      rw [er]
      repeat (first
        | (with_reducible refine lops_step fun K hK => ?_; simp (disch := first | omega | (simp only [go_sem, isRow, isFlat, Option.isSome_some]; done) | assumption | (simp only [ints_length, List.length_replicate, List.length_set, List.length_append, List.length_take, List.length_drop, List.length_cons, List.length_nil] <;> omega) | fail) only [go_sem, Nat.reduceAdd, Nat.reduceSub, reduceIte, Nat.reduceEqDiff, Int.reduceToNat, Int.reduceBEq, Int.reduceBNe, d1, d2, bm, hif, hif2, hE, q, q0, hbE, hes, w1, w2, w4]; (try (first | (refine And.intro (fun _ => ?_) (fun h => absurd h (by decide))) | (refine And.intro (fun h => absurd h (by decide)) (fun _ => ?_)))); (repeat (with_reducible refine And.intro (by first | omega | rfl | assumption | decide) ?_)); (first | (refine hK _ _ ?_) | (refine ⟨_, rfl, hK _ _ ?_⟩) | (refine Or.inl (hK _ _ ?_)) | (refine ⟨_, _, Or.inl (f0.go _), (by first | exact ⟨[], (List.append_nil _).symm⟩ | exact ⟨_, rfl⟩), hK _ _ ?_⟩) | (refine ⟨_, _, Or.inl (f0.go _), hK _ _ ?_⟩) | (refine ⟨_, _, Or.inl (f0.go _).weakQ, hK _ _ ?_⟩) | (refine ⟨_, _, Or.inl (np0.go _), (by first | exact ⟨[], (List.append_nil _).symm⟩ | exact ⟨_, rfl⟩), hK _ _ ?_⟩) | (refine ⟨_, _, Or.inl (np0.go _), hK _ _ ?_⟩) | (refine ⟨_, _, Or.inl (np0.go _).weakQ, hK _ _ ?_⟩) | (refine ⟨_, _, Or.inl (np5.go _), (by first | exact ⟨[], (List.append_nil _).symm⟩ | exact ⟨_, rfl⟩), hK _ _ ?_⟩) | (refine ⟨_, _, Or.inl (np5.go _), hK _ _ ?_⟩) | (refine ⟨_, _, Or.inl (np5.go _).weakQ, hK _ _ ?_⟩) | (refine ⟨_, _, Or.inl (np8.go _), (by first | exact ⟨[], (List.append_nil _).symm⟩ | exact ⟨_, rfl⟩), hK _ _ ?_⟩) | (refine ⟨_, _, Or.inl (np8.go _), hK _ _ ?_⟩) | (refine ⟨_, _, Or.inl (np8.go _).weakQ, hK _ _ ?_⟩) | (refine ⟨_, _, Or.inl (np11.go _), (by first | exact ⟨[], (List.append_nil _).symm⟩ | exact ⟨_, rfl⟩), hK _ _ ?_⟩) | (refine ⟨_, _, Or.inl (np11.go _), hK _ _ ?_⟩) | (refine ⟨_, _, Or.inl (np11.go _).weakQ, hK _ _ ?_⟩) | (refine ⟨_, _, Or.inl (np14.go _), (by first | exact ⟨[], (List.append_nil _).symm⟩ | exact ⟨_, rfl⟩), hK _ _ ?_⟩) | (refine ⟨_, _, Or.inl (np14.go _), hK _ _ ?_⟩) | (refine ⟨_, _, Or.inl (np14.go _).weakQ, hK _ _ ?_⟩) | (refine ⟨_, _, Or.inl (np17.go _), (by first | exact ⟨[], (List.append_nil _).symm⟩ | exact ⟨_, rfl⟩), hK _ _ ?_⟩) | (refine ⟨_, _, Or.inl (np17.go _), hK _ _ ?_⟩) | (refine ⟨_, _, Or.inl (np17.go _).weakQ, hK _ _ ?_⟩) | (refine ⟨_, _, Or.inl (gp.go _), (by first | exact ⟨[], (List.append_nil _).symm⟩ | exact ⟨_, rfl⟩), hK _ _ ?_⟩) | (refine ⟨_, _, Or.inl (gp.go _), hK _ _ ?_⟩) | (refine ⟨_, _, Or.inl (gp.go _).weakQ, hK _ _ ?_⟩) | (refine ⟨_, _, Or.inl (f1.go _), (by first | exact ⟨[], (List.append_nil _).symm⟩ | exact ⟨_, rfl⟩), hK _ _ ?_⟩) | (refine ⟨_, _, Or.inl (f1.go _), hK _ _ ?_⟩) | (refine ⟨_, _, Or.inl (f1.go _).weakQ, hK _ _ ?_⟩) | (refine ⟨_, _, Or.inl (f2.go _), (by first | exact ⟨[], (List.append_nil _).symm⟩ | exact ⟨_, rfl⟩), hK _ _ ?_⟩) | (refine ⟨_, _, Or.inl (f2.go _), hK _ _ ?_⟩) | (refine ⟨_, _, Or.inl (f2.go _).weakQ, hK _ _ ?_⟩) | (refine ⟨_, _, Or.inl (np1.go _), (by first | exact ⟨[], (List.append_nil _).symm⟩ | exact ⟨_, rfl⟩), hK _ _ ?_⟩) | (refine ⟨_, _, Or.inl (np1.go _), hK _ _ ?_⟩) | (refine ⟨_, _, Or.inl (np1.go _).weakQ, hK _ _ ?_⟩) | (refine ⟨_, _, Or.inl (np4.go _), (by first | exact ⟨[], (List.append_nil _).symm⟩ | exact ⟨_, rfl⟩), hK _ _ ?_⟩) | (refine ⟨_, _, Or.inl (np4.go _), hK _ _ ?_⟩) | (refine ⟨_, _, Or.inl (np4.go _).weakQ, hK _ _ ?_⟩)); clear hK K)
        | (with_reducible refine lops_nil ?_)
        | (with_reducible refine lavc_reg ?_)
        | (with_reducible refine lavc_seq ?_)
        | (with_reducible refine lavc_block ?_)
        | (with_reducible refine lavc_skip ?_)
        | (with_reducible refine lavc_exit ?_)
        | (with_reducible refine lavc_ret ?_)
        | (with_reducible refine lavcR_round ?_)
        | (refine lavc_cond rfl (fun _ => ?_) (fun hc => absurd hc (by decide)))
        | (refine lavc_cond rfl (fun hc => absurd hc (by decide)) (fun _ => ?_))
        | (simp only [↓reduceIte, Nat.reduceEqDiff, reduceCtorEq]))
      refine And.intro (by simp) ?_
      simp (disch := first | omega | (simp only [go_sem, isRow, isFlat, Option.isSome_some]; done) | assumption | (simp only [ints_length, List.length_replicate, List.length_set, List.length_append, List.length_take, List.length_drop, List.length_cons, List.length_nil] <;> omega) | fail) only [go_sem, Nat.reduceAdd, Nat.reduceSub, reduceIte, Nat.reduceEqDiff, Int.reduceToNat, Int.reduceBEq, Int.reduceBNe, aret, aretL, aret1, aenv]
      (repeat (with_reducible refine And.intro (by first | omega | rfl | assumption | decide) ?_))
      exact end0 (NR.t2 _ _) rfl
    replace hok := Decidable.not_not.1 hok
    rw [decide_eq_true hok] at gp
    have sp := seconds_p (momS s) hok
    rw [emv] at sp
    have hsi := secs_in hok
    unfold tFirst tLast at hsi
    have w3 := i64z (secs (momS s) + (A * 3600 + M * 60)) (by omega)
    have tp := time_p (secs (momS s) + (A * 3600 + M * 60))
    obtain ⟨N, hN⟩ : ∃ N, secs (momS s) = N := ⟨_, rfl⟩
    by_cases ht : ¬ (tFirst ≤ secs (momS s) + (A * 3600 + M * 60) ∧ secs (momS s) + (A * 3600 + M * 60) ≤ tLast)
    · rw [decide_eq_false ht] at tp
      have er : readP s = (0, 12) := by unfold readP; rw [if_neg (not_not_intro hF0), if_neg hov, if_neg (not_not_intro hok), hsh, if_pos ht]
      rw [er]
      rw [hN] at sp tp w3
      repeat (first
        | (with_reducible refine lops_step fun K hK => ?_; simp (disch := first | omega | (simp only [go_sem, isRow, isFlat, Option.isSome_some]; done) | assumption | (simp only [ints_length, List.length_replicate, List.length_set, List.length_append, List.length_take, List.length_drop, List.length_cons, List.length_nil] <;> omega) | fail) only [go_sem, Nat.reduceAdd, Nat.reduceSub, reduceIte, Nat.reduceEqDiff, Int.reduceToNat, Int.reduceBEq, Int.reduceBNe, w3, d1, d2, bm, hif, hif2, hE, q, q0, hbE, hes, w1, w2, w4]; (try (first | (refine And.intro (fun _ => ?_) (fun h => absurd h (by decide))) | (refine And.intro (fun h => absurd h (by decide)) (fun _ => ?_)))); (repeat (with_reducible refine And.intro (by first | omega | rfl | assumption | decide) ?_)); (first | (refine hK _ _ ?_) | (refine ⟨_, rfl, hK _ _ ?_⟩) | (refine Or.inl (hK _ _ ?_)) | (refine ⟨_, _, Or.inl (f0.go _), (by first | exact ⟨[], (List.append_nil _).symm⟩ | exact ⟨_, rfl⟩), hK _ _ ?_⟩) | (refine ⟨_, _, Or.inl (f0.go _), hK _ _ ?_⟩) | (refine ⟨_, _, Or.inl (f0.go _).weakQ, hK _ _ ?_⟩) | (refine ⟨_, _, Or.inl (np0.go _), (by first | exact ⟨[], (List.append_nil _).symm⟩ | exact ⟨_, rfl⟩), hK _ _ ?_⟩) | (refine ⟨_, _, Or.inl (np0.go _), hK _ _ ?_⟩) | (refine ⟨_, _, Or.inl (np0.go _).weakQ, hK _ _ ?_⟩) | (refine ⟨_, _, Or.inl (np5.go _), (by first | exact ⟨[], (List.append_nil _).symm⟩ | exact ⟨_, rfl⟩), hK _ _ ?_⟩) | (refine ⟨_, _, Or.inl (np5.go _), hK _ _ ?_⟩) | (refine ⟨_, _, Or.inl (np5.go _).weakQ, hK _ _ ?_⟩) | (refine ⟨_, _, Or.inl (np8.go _), (by first | exact ⟨[], (List.append_nil _).symm⟩ | exact ⟨_, rfl⟩), hK _ _ ?_⟩) | (refine ⟨_, _, Or.inl (np8.go _), hK _ _ ?_⟩) | (refine ⟨_, _, Or.inl (np8.go _).weakQ, hK _ _ ?_⟩) | (refine ⟨_, _, Or.inl (np11.go _), (by first | exact ⟨[], (List.append_nil _).symm⟩ | exact ⟨_, rfl⟩), hK _ _ ?_⟩) | (refine ⟨_, _, Or.inl (np11.go _), hK _ _ ?_⟩) | (refine ⟨_, _, Or.inl (np11.go _).weakQ, hK _ _ ?_⟩) | (refine ⟨_, _, Or.inl (np14.go _), (by first | exact ⟨[], (List.append_nil _).symm⟩ | exact ⟨_, rfl⟩), hK _ _ ?_⟩) | (refine ⟨_, _, Or.inl (np14.go _), hK _ _ ?_⟩) | (refine ⟨_, _, Or.inl (np14.go _).weakQ, hK _ _ ?_⟩) | (refine ⟨_, _, Or.inl (np17.go _), (by first | exact ⟨[], (List.append_nil _).symm⟩ | exact ⟨_, rfl⟩), hK _ _ ?_⟩) | (refine ⟨_, _, Or.inl (np17.go _), hK _ _ ?_⟩) | (refine ⟨_, _, Or.inl (np17.go _).weakQ, hK _ _ ?_⟩) | (refine ⟨_, _, Or.inl (gp.go _), (by first | exact ⟨[], (List.append_nil _).symm⟩ | exact ⟨_, rfl⟩), hK _ _ ?_⟩) | (refine ⟨_, _, Or.inl (gp.go _), hK _ _ ?_⟩) | (refine ⟨_, _, Or.inl (gp.go _).weakQ, hK _ _ ?_⟩) | (refine ⟨_, _, Or.inl (f1.go _), (by first | exact ⟨[], (List.append_nil _).symm⟩ | exact ⟨_, rfl⟩), hK _ _ ?_⟩) | (refine ⟨_, _, Or.inl (f1.go _), hK _ _ ?_⟩) | (refine ⟨_, _, Or.inl (f1.go _).weakQ, hK _ _ ?_⟩) | (refine ⟨_, _, Or.inl (f2.go _), (by first | exact ⟨[], (List.append_nil _).symm⟩ | exact ⟨_, rfl⟩), hK _ _ ?_⟩) | (refine ⟨_, _, Or.inl (f2.go _), hK _ _ ?_⟩) | (refine ⟨_, _, Or.inl (f2.go _).weakQ, hK _ _ ?_⟩) | (refine ⟨_, _, Or.inl (np1.go _), (by first | exact ⟨[], (List.append_nil _).symm⟩ | exact ⟨_, rfl⟩), hK _ _ ?_⟩) | (refine ⟨_, _, Or.inl (np1.go _), hK _ _ ?_⟩) | (refine ⟨_, _, Or.inl (np1.go _).weakQ, hK _ _ ?_⟩) | (refine ⟨_, _, Or.inl (np4.go _), (by first | exact ⟨[], (List.append_nil _).symm⟩ | exact ⟨_, rfl⟩), hK _ _ ?_⟩) | (refine ⟨_, _, Or.inl (np4.go _), hK _ _ ?_⟩) | (refine ⟨_, _, Or.inl (np4.go _).weakQ, hK _ _ ?_⟩) | (refine ⟨_, _, Or.inl (sp.go _), (by first | exact ⟨[], (List.append_nil _).symm⟩ | exact ⟨_, rfl⟩), hK _ _ ?_⟩) | (refine ⟨_, _, Or.inl (sp.go _), hK _ _ ?_⟩) | (refine ⟨_, _, Or.inl (sp.go _).weakQ, hK _ _ ?_⟩) | (refine ⟨_, _, Or.inl (tp.go _), (by first | exact ⟨[], (List.append_nil _).symm⟩ | exact ⟨_, rfl⟩), hK _ _ ?_⟩) | (refine ⟨_, _, Or.inl (tp.go _), hK _ _ ?_⟩) | (refine ⟨_, _, Or.inl (tp.go _).weakQ, hK _ _ ?_⟩)); clear hK K)
        | (with_reducible refine lops_nil ?_)
        | (with_reducible refine lavc_reg ?_)
        | (with_reducible refine lavc_seq ?_)
        | (with_reducible refine lavc_block ?_)
        | (with_reducible refine lavc_skip ?_)
        | (with_reducible refine lavc_exit ?_)
        | (with_reducible refine lavc_ret ?_)
        | (with_reducible refine lavcR_round ?_)
        | (refine lavc_cond rfl (fun _ => ?_) (fun hc => absurd hc (by decide)))
        | (refine lavc_cond rfl (fun hc => absurd hc (by decide)) (fun _ => ?_))
        | (simp only [↓reduceIte, Nat.reduceEqDiff, reduceCtorEq]))
      refine And.intro (by simp) ?_
      simp (disch := first | omega | (simp only [go_sem, isRow, isFlat, Option.isSome_some]; done) | assumption | (simp only [ints_length, List.length_replicate, List.length_set, List.length_append, List.length_take, List.length_drop, List.length_cons, List.length_nil] <;> omega) | fail) only [go_sem, Nat.reduceAdd, Nat.reduceSub, reduceIte, Nat.reduceEqDiff, Int.reduceToNat, Int.reduceBEq, Int.reduceBNe, aret, aretL, aret1, aenv]
      (repeat (with_reducible refine And.intro (by first | omega | rfl | assumption | decide) ?_))
      exact end0 (NR.t2 _ _) rfl
    replace ht := Decidable.not_not.1 ht
    rw [decide_eq_true ht] at tp
    have er : readP s = (secs (momS s) + (A * 3600 + M * 60), 0) := by unfold readP; rw [if_neg (not_not_intro hF0), if_neg hov, if_neg (not_not_intro hok), hsh, if_neg (not_not_intro ht)]
    rw [er]
    rw [hN] at sp tp w3 ⊢
    repeat (first
      | (with_reducible refine lops_step fun K hK => ?_; simp (disch := first | omega | (simp only [go_sem, isRow, isFlat, Option.isSome_some]; done) | assumption | (simp only [ints_length, List.length_replicate, List.length_set, List.length_append, List.length_take, List.length_drop, List.length_cons, List.length_nil] <;> omega) | fail) only [go_sem, Nat.reduceAdd, Nat.reduceSub, reduceIte, Nat.reduceEqDiff, Int.reduceToNat, Int.reduceBEq, Int.reduceBNe, w3, d1, d2, bm, hif, hif2, hE, q, q0, hbE, hes, w1, w2, w4]; (try (first | (refine And.intro (fun _ => ?_) (fun h => absurd h (by decide))) | (refine And.intro (fun h => absurd h (by decide)) (fun _ => ?_)))); (repeat (with_reducible refine And.intro (by first | omega | rfl | assumption | decide) ?_)); (first | (refine hK _ _ ?_) | (refine ⟨_, rfl, hK _ _ ?_⟩) | (refine Or.inl (hK _ _ ?_)) | (refine ⟨_, _, Or.inl (f0.go _), (by first | exact ⟨[], (List.append_nil _).symm⟩ | exact ⟨_, rfl⟩), hK _ _ ?_⟩) | (refine ⟨_, _, Or.inl (f0.go _), hK _ _ ?_⟩) | (refine ⟨_, _, Or.inl (f0.go _).weakQ, hK _ _ ?_⟩) | (refine ⟨_, _, Or.inl (np0.go _), (by first | exact ⟨[], (List.append_nil _).symm⟩ | exact ⟨_, rfl⟩), hK _ _ ?_⟩) | (refine ⟨_, _, Or.inl (np0.go _), hK _ _ ?_⟩) | (refine ⟨_, _, Or.inl (np0.go _).weakQ, hK _ _ ?_⟩) | (refine ⟨_, _, Or.inl (np5.go _), (by first | exact ⟨[], (List.append_nil _).symm⟩ | exact ⟨_, rfl⟩), hK _ _ ?_⟩) | (refine ⟨_, _, Or.inl (np5.go _), hK _ _ ?_⟩) | (refine ⟨_, _, Or.inl (np5.go _).weakQ, hK _ _ ?_⟩) | (refine ⟨_, _, Or.inl (np8.go _), (by first | exact ⟨[], (List.append_nil _).symm⟩ | exact ⟨_, rfl⟩), hK _ _ ?_⟩) | (refine ⟨_, _, Or.inl (np8.go _), hK _ _ ?_⟩) | (refine ⟨_, _, Or.inl (np8.go _).weakQ, hK _ _ ?_⟩) | (refine ⟨_, _, Or.inl (np11.go _), (by first | exact ⟨[], (List.append_nil _).symm⟩ | exact ⟨_, rfl⟩), hK _ _ ?_⟩) | (refine ⟨_, _, Or.inl (np11.go _), hK _ _ ?_⟩) | (refine ⟨_, _, Or.inl (np11.go _).weakQ, hK _ _ ?_⟩) | (refine ⟨_, _, Or.inl (np14.go _), (by first | exact ⟨[], (List.append_nil _).symm⟩ | exact ⟨_, rfl⟩), hK _ _ ?_⟩) | (refine ⟨_, _, Or.inl (np14.go _), hK _ _ ?_⟩) | (refine ⟨_, _, Or.inl (np14.go _).weakQ, hK _ _ ?_⟩) | (refine ⟨_, _, Or.inl (np17.go _), (by first | exact ⟨[], (List.append_nil _).symm⟩ | exact ⟨_, rfl⟩), hK _ _ ?_⟩) | (refine ⟨_, _, Or.inl (np17.go _), hK _ _ ?_⟩) | (refine ⟨_, _, Or.inl (np17.go _).weakQ, hK _ _ ?_⟩) | (refine ⟨_, _, Or.inl (gp.go _), (by first | exact ⟨[], (List.append_nil _).symm⟩ | exact ⟨_, rfl⟩), hK _ _ ?_⟩) | (refine ⟨_, _, Or.inl (gp.go _), hK _ _ ?_⟩) | (refine ⟨_, _, Or.inl (gp.go _).weakQ, hK _ _ ?_⟩) | (refine ⟨_, _, Or.inl (f1.go _), (by first | exact ⟨[], (List.append_nil _).symm⟩ | exact ⟨_, rfl⟩), hK _ _ ?_⟩) | (refine ⟨_, _, Or.inl (f1.go _), hK _ _ ?_⟩) | (refine ⟨_, _, Or.inl (f1.go _).weakQ, hK _ _ ?_⟩) | (refine ⟨_, _, Or.inl (f2.go _), (by first | exact ⟨[], (List.append_nil _).symm⟩ | exact ⟨_, rfl⟩), hK _ _ ?_⟩) | (refine ⟨_, _, Or.inl (f2.go _), hK _ _ ?_⟩) | (refine ⟨_, _, Or.inl (f2.go _).weakQ, hK _ _ ?_⟩) | (refine ⟨_, _, Or.inl (np1.go _), (by first | exact ⟨[], (List.append_nil _).symm⟩ | exact ⟨_, rfl⟩), hK _ _ ?_⟩) | (refine ⟨_, _, Or.inl (np1.go _), hK _ _ ?_⟩) | (refine ⟨_, _, Or.inl (np1.go _).weakQ, hK _ _ ?_⟩) | (refine ⟨_, _, Or.inl (np4.go _), (by first | exact ⟨[], (List.append_nil _).symm⟩ | exact ⟨_, rfl⟩), hK _ _ ?_⟩) | (refine ⟨_, _, Or.inl (np4.go _), hK _ _ ?_⟩) | (refine ⟨_, _, Or.inl (np4.go _).weakQ, hK _ _ ?_⟩) | (refine ⟨_, _, Or.inl (sp.go _), (by first | exact ⟨[], (List.append_nil _).symm⟩ | exact ⟨_, rfl⟩), hK _ _ ?_⟩) | (refine ⟨_, _, Or.inl (sp.go _), hK _ _ ?_⟩) | (refine ⟨_, _, Or.inl (sp.go _).weakQ, hK _ _ ?_⟩) | (refine ⟨_, _, Or.inl (tp.go _), (by first | exact ⟨[], (List.append_nil _).symm⟩ | exact ⟨_, rfl⟩), hK _ _ ?_⟩) | (refine ⟨_, _, Or.inl (tp.go _), hK _ _ ?_⟩) | (refine ⟨_, _, Or.inl (tp.go _).weakQ, hK _ _ ?_⟩)); clear hK K)
      | (with_reducible refine lops_nil ?_)
      | (with_reducible refine lavc_reg ?_)
      | (with_reducible refine lavc_seq ?_)
      | (with_reducible refine lavc_block ?_)
      | (with_reducible refine lavc_skip ?_)
      | (with_reducible refine lavc_exit ?_)
      | (with_reducible refine lavc_ret ?_)
      | (with_reducible refine lavcR_round ?_)
      | (refine lavc_cond rfl (fun _ => ?_) (fun hc => absurd hc (by decide)))
      | (refine lavc_cond rfl (fun hc => absurd hc (by decide)) (fun _ => ?_))
      | (simp only [↓reduceIte, Nat.reduceEqDiff, reduceCtorEq]))
    refine And.intro (by simp) ?_
    simp (disch := first | omega | (simp only [go_sem, isRow, isFlat, Option.isSome_some]; done) | assumption | (simp only [ints_length, List.length_replicate, List.length_set, List.length_append, List.length_take, List.length_drop, List.length_cons, List.length_nil] <;> omega) | fail) only [go_sem, Nat.reduceAdd, Nat.reduceSub, reduceIte, Nat.reduceEqDiff, Int.reduceToNat, Int.reduceBEq, Int.reduceBNe, aret, aretL, aret1, aenv]
    (repeat (with_reducible refine And.intro (by first | omega | rfl | assumption | decide) ?_))
    exact end0 (NR.t2 _ _) rfl
theorem Read_p (s : ByteArray) (hs : s.size ≤ 1000000) : PCall Tryd.prog glob 11 [.v (.string s)] (.tup [iv (readP s).1, iv (readP s).2]) := by
  by_cases h : Formed s
  · rcases h.2 with g | g
    · exact Read_z s h g.1
    · exact Read_25 s h g.1
  · have e : readP s = (0, 2) := by unfold readP; rw [if_pos h]
    rw [e]
    exact Read_bad s hs h
end Go.Abs.S
