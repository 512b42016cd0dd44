/- hour: a text read, in the program, on. Claims: a rule's error; of rules. Claims: the first rule's error; the usual rules. 'slices.Grow' and 'slices.Concat' of rows of texts; what they hold. hour: the  -/
import Derived.Test.YtgmchiadphdlhaaGreatDoorJClaimReads4
import Derived.Test.YtgmchiadphdlhaaGreatDoorJClaimReads3
import Derived.Test.YtgmchiadphdlhaaGreatDoorJClaimReads2
import Derived.Shelf.Strings.SlTrimAscii
namespace Go.Abs.S
attribute [local go_sem] lguard aopO aop aenv toAV tput aLoad aStore vcells aBin aNilI aUn aAlloc aBox aBuild aBSlice afill aConv isIntT aappZ aCap aArr aMM aMake aSlice bnd3 bnd aFldAddr aFld aIdxAddr aIdx aExt aLen aCopy aEq0 bAV aUb aapp aappQ agh acont List.getD_cons_zero List.getD_cons_succ List.set_cons_zero List.set_cons_succ List.getElem?_cons_zero List.getElem?_cons_succ List.length_cons List.length_nil List.map_cons List.map_nil ints_length if_true if_false Bool.false_eq_true true_and and_true eq_self ne_eq not_false_eq_true not_true_eq_false beq_self_eq_true Nat.zero_add Nat.add_zero Nat.mul_one Nat.zero_mul Int.toNat_natCast List.toList_toArray List.all_cons List.all_nil AV.one Value.oneCell' Bool.and_true Bool.true_and forall_const true_implies false_implies implies_true Option.map_some Option.map_none Option.isSome_some Option.isSome_none imp_self rdP_flat rdP_row splice_one ints_set ints_get List.append_nil List.cons_append List.nil_append List.getElem?_toArray List.drop_zero ints_drop ints_take List.take_of_length_le splice_all ints_one Option.some.injEq Option.getD_some List.length_replicate zArr List.map_replicate rep_ints splice_intsR List.length_set List.length_append List.flatten_replicate_singleton rep_slice rep_string rep_bool rep_iface List.replicate_zero if_pos if_neg List.mapM_cons List.mapM_nil Option.pure_def Option.bind_eq_bind Option.bind_some Bool.true_eq_false Bool.not_false Bool.not_true get_concat set_concat
open Go.Proofs
open Go.Abs.H
set_option linter.unusedVariables false
set_option linter.unusedSimpArgs false
set_option maxRecDepth 100000
set_option maxHeartbeats 4000000
theorem mom_in {s : ByteArray} (h : D19 s) : (0 ≤ n4 s 0 ∧ n4 s 0 ≤ 9999) ∧ (0 ≤ n2 s 5 ∧ n2 s 5 ≤ 99) ∧ (0 ≤ n2 s 8 ∧ n2 s 8 ≤ 99) ∧ (0 ≤ n2 s 11 ∧ n2 s 11 ≤ 99) ∧ (0 ≤ n2 s 14 ∧ n2 s 14 ≤ 99) ∧ (0 ≤ n2 s 17 ∧ n2 s 17 ≤ 99) := by
  obtain ⟨h0, _, h5, _, h8, _, h11, _, h14, _, h17⟩ := h
  exact ⟨n4_in h0, n2_in h5, n2_in h8, n2_in h11, n2_in h14, n2_in h17⟩
theorem num2_p (s : ByteArray) (a b : Nat) (hb : b = a + 2) (hs : b ≤ s.size) (h : dg s a ∧ dg s (a + 1)) : PCall Tryz.prog glob 93 [.v (.string (s.extract a b))] (iv (n2 s a)) := by
  subst hb
  have hz : (s.extract a (a + 2)).size = 2 := by rw [ext_size]; omega
  have := number_p (s.extract a (a + 2)) (by omega) (by omega) ((allD2 s a hs).2 h)
  rwa [num2 s a hs] at this
theorem num4_p (s : ByteArray) (hs : 4 ≤ s.size) (h : dg s 0 ∧ dg s 1 ∧ dg s 2 ∧ dg s 3) : PCall Tryz.prog glob 93 [.v (.string (s.extract 0 4))] (iv (n4 s 0)) := by
  have hz : (s.extract 0 4).size = 4 := by rw [ext_size]; omega
  have := number_p (s.extract 0 4) (by omega) (by omega) ((allD4 s hs).2 h)
  rwa [num4 s hs] at this
theorem Read_z (s : ByteArray) (hF : Formed s) (hs : s.size = 20) : PCall Tryz.prog glob 68 [.v (.string s)] (.tup [iv (readP s).1, iv (readP s).2]) := by
  have hF0 := hF
  refine PCall.of ctx.nr nrs (NR.t2 _ _) ?_
  refine lcall68 (by simp) 0 (Nat.le_refl _) ?_
  unfold lc68
  refine I1 tt ⟨?_⟩
  have hif : (if (s.size : Int) < 19 then (s.size : Int) else 19) = ((19 : Nat) : Int) := by
    split <;> omega
  have hif2 : (if (19 : Int) < (s.size : Int) then (19 : Int) else (s.size : Int)) = ((19 : Nat) : Int) := by
    split <;> omega
  have hfo := (formed_iff s 19 (by omega)).1 hF
  have hmi := mom_in hF.1
  obtain ⟨hd19, hcase⟩ := hF
  obtain ⟨h0, _, h5, _, h8, _, h11, _, h14, _, h17⟩ := hd19
  have hz0 : (s.extract 0 19).size ≤ 1000000 := by rw [ext_size]; omega
  have f0 := fits_p (s.extract 0 19) F19 hz0 (by decide)
  rw [decide_eq_true hfo.1] at f0
  have np0 := num4_p s (by omega) h0
  have np5 := num2_p s 5 7 rfl (by omega) h5
  have np8 := num2_p s 8 10 rfl (by omega) h8
  have np11 := num2_p s 11 13 rfl (by omega) h11
  have np14 := num2_p s 14 16 rfl (by omega) h14
  have np17 := num2_p s 17 19 rfl (by omega) h17
  have gp := good_p (momS s) (by show -9223372036854775808 ≤ n2 s 5 ∧ n2 s 5 ≤ 9223372036854775807; omega)
  rw [goodP_ok (momS s) (by show 0 ≤ n2 s 11; omega) (by show 0 ≤ n2 s 14; omega) (by show 0 ≤ n2 s 17; omega)] at gp
  have emv : mv (momS s) = .agg (ints .i64 [n4 s 0, n2 s 5, n2 s 8, n2 s 11, n2 s 14, n2 s 17]) := rfl
  rw [emv] at gp
  have bm : ∀ a b c d e f : Int, (((List.take 0 (List.replicate 6 0) ++ (((List.replicate 3 0).set 0 a).set 1 b).set 2 c ++ List.drop 3 (List.replicate 6 0)).set 3 d).set 4 e).set 5 f = [a, b, c, d, e, f] := fun _ _ _ _ _ _ => rfl
  have hb0 := bt_ext s 19 s.size 0 (by omega)
  rw [Nat.add_zero] at hb0
  have hez : (s.extract 19 s.size).size = s.size - 19 := by rw [ext_size]; omega
  have hb19 : bt s 19 = 90 := by rcases hcase with h | h <;> omega
  have hE1 : s.extract 19 s.size = ⟨#[90]⟩ := by
    rcases hfo.2 with h | h | h
    · exact h
    · have := h.1
      rw [hez] at this
      have e : FP.size = 6 := rfl
      omega
    · have := h.1
      rw [hez] at this
      have e : FM.size = 6 := rfl
      omega
  have q : ((⟨#[90]⟩ : ByteArray).toList == (⟨#[90]⟩ : ByteArray).toList) = true := by simp
  have q0 : (((({ data := #[90] } : ByteArray).data.toList.getD 0 0).toNat : Int) == 43) = false := by decide
  have hov : ¬ (s.size = 25 ∧ (23 < n2 s 20 ∨ 59 < n2 s 23)) := by omega
  have hsh : shf s = 0 := by unfold shf; rw [if_pos hs]
  by_cases hok : ¬ (momS s).ok
  · rw [decide_eq_false hok] at gp
    have er : readP s = (0, 12) := by unfold readP; rw [if_neg (not_not_intro hF0), if_neg hov, if_pos hok]
    rw [er]
    refine G1 F4 (an bm (an hif (an hif2 (an hE1 (an q (an q0 tt)))))) (an f0.go (an np0.go (an np5.go (an np8.go (an np11.go (an np14.go (an np17.go (an gp.go tt)))))))) tt tt ⟨?_⟩
    refine R1 tt ⟨?_⟩
    exact end0 (NR.t2 _ _) rfl
  replace hok := Decidable.not_not.1 hok
  rw [decide_eq_true hok] at gp
  have sp := seconds_p (momS s) hok
  rw [emv] at sp
  have hsi := secs_in hok
  unfold tFirst tLast at hsi
  have w3 := i64z (secs (momS s) + 0) (by omega)
  have tp := time_p (secs (momS s) + 0)
  obtain ⟨N, hN⟩ : ∃ N, secs (momS s) = N := ⟨_, rfl⟩
  by_cases ht : ¬ (tFirst ≤ secs (momS s) + 0 ∧ secs (momS s) + 0 ≤ tLast)
  · rw [decide_eq_false ht] at tp
    have er : readP s = (0, 12) := by unfold readP; rw [if_neg (not_not_intro hF0), if_neg hov, if_neg (not_not_intro hok), hsh, if_pos ht]
    rw [er]
    rw [hN] at sp tp w3
    repeat (first
      | (with_reducible refine lops_step fun K hK => ?_; simp (disch := first | exact dch | fail) only [go_sem, Nat.reduceAdd, Nat.reduceSub, reduceIte, Nat.reduceEqDiff, Int.reduceToNat, Int.reduceBEq, Int.reduceBNe, w3, bm, hif, hif2, hE1, q, q0]; (try (first | (refine And.intro (fun _ => ?_) (fun h => absurd h (by decide))) | (refine And.intro (fun h => absurd h (by decide)) (fun _ => ?_)))); (repeat (with_reducible refine And.intro acl ?_)); (first | (refine hK _ _ ?_) | (refine ⟨_, rfl, hK _ _ ?_⟩) | (refine Or.inl (hK _ _ ?_)) | (refine ⟨_, _, Or.inl (f0.go _), (by first | exact ⟨[], (List.append_nil _).symm⟩ | exact ⟨_, rfl⟩), hK _ _ ?_⟩) | (refine ⟨_, _, Or.inl (f0.go _), hK _ _ ?_⟩) | (refine ⟨_, _, Or.inl (f0.go _).weakQ, hK _ _ ?_⟩) | (refine ⟨_, _, Or.inl (np0.go _), (by first | exact ⟨[], (List.append_nil _).symm⟩ | exact ⟨_, rfl⟩), hK _ _ ?_⟩) | (refine ⟨_, _, Or.inl (np0.go _), hK _ _ ?_⟩) | (refine ⟨_, _, Or.inl (np0.go _).weakQ, hK _ _ ?_⟩) | (refine ⟨_, _, Or.inl (np5.go _), (by first | exact ⟨[], (List.append_nil _).symm⟩ | exact ⟨_, rfl⟩), hK _ _ ?_⟩) | (refine ⟨_, _, Or.inl (np5.go _), hK _ _ ?_⟩) | (refine ⟨_, _, Or.inl (np5.go _).weakQ, hK _ _ ?_⟩) | (refine ⟨_, _, Or.inl (np8.go _), (by first | exact ⟨[], (List.append_nil _).symm⟩ | exact ⟨_, rfl⟩), hK _ _ ?_⟩) | (refine ⟨_, _, Or.inl (np8.go _), hK _ _ ?_⟩) | (refine ⟨_, _, Or.inl (np8.go _).weakQ, hK _ _ ?_⟩) | (refine ⟨_, _, Or.inl (np11.go _), (by first | exact ⟨[], (List.append_nil _).symm⟩ | exact ⟨_, rfl⟩), hK _ _ ?_⟩) | (refine ⟨_, _, Or.inl (np11.go _), hK _ _ ?_⟩) | (refine ⟨_, _, Or.inl (np11.go _).weakQ, hK _ _ ?_⟩) | (refine ⟨_, _, Or.inl (np14.go _), (by first | exact ⟨[], (List.append_nil _).symm⟩ | exact ⟨_, rfl⟩), hK _ _ ?_⟩) | (refine ⟨_, _, Or.inl (np14.go _), hK _ _ ?_⟩) | (refine ⟨_, _, Or.inl (np14.go _).weakQ, hK _ _ ?_⟩) | (refine ⟨_, _, Or.inl (np17.go _), (by first | exact ⟨[], (List.append_nil _).symm⟩ | exact ⟨_, rfl⟩), hK _ _ ?_⟩) | (refine ⟨_, _, Or.inl (np17.go _), hK _ _ ?_⟩) | (refine ⟨_, _, Or.inl (np17.go _).weakQ, hK _ _ ?_⟩) | (refine ⟨_, _, Or.inl (gp.go _), (by first | exact ⟨[], (List.append_nil _).symm⟩ | exact ⟨_, rfl⟩), hK _ _ ?_⟩) | (refine ⟨_, _, Or.inl (gp.go _), hK _ _ ?_⟩) | (refine ⟨_, _, Or.inl (gp.go _).weakQ, hK _ _ ?_⟩) | (refine ⟨_, _, Or.inl (sp.go _), (by first | exact ⟨[], (List.append_nil _).symm⟩ | exact ⟨_, rfl⟩), hK _ _ ?_⟩) | (refine ⟨_, _, Or.inl (sp.go _), hK _ _ ?_⟩) | (refine ⟨_, _, Or.inl (sp.go _).weakQ, hK _ _ ?_⟩) | (refine ⟨_, _, Or.inl (tp.go _), (by first | exact ⟨[], (List.append_nil _).symm⟩ | exact ⟨_, rfl⟩), hK _ _ ?_⟩) | (refine ⟨_, _, Or.inl (tp.go _), hK _ _ ?_⟩) | (refine ⟨_, _, Or.inl (tp.go _).weakQ, hK _ _ ?_⟩)); clear hK K)
      | (with_reducible refine lops_nil ?_)
      | (with_reducible first | refine lavc_reg ?_ | refine lavc_seq ?_ | refine lavc_block ?_ | refine lavc_skip ?_ | refine lavc_exit ?_ | refine lavc_ret ?_ | refine lavcR_round ?_)
      | (refine lavc_cond rfl (fun _ => ?_) (fun hc => absurd hc (by decide)))
      | (refine lavc_cond rfl (fun hc => absurd hc (by decide)) (fun _ => ?_))
      | (simp only [↓reduceIte, Nat.reduceEqDiff, reduceCtorEq]))
    refine R1 tt ⟨?_⟩
    exact end0 (NR.t2 _ _) rfl
  replace ht := Decidable.not_not.1 ht
  rw [decide_eq_true ht] at tp
  have er : readP s = (secs (momS s) + 0, 0) := by unfold readP; rw [if_neg (not_not_intro hF0), if_neg hov, if_neg (not_not_intro hok), hsh, if_neg (not_not_intro ht)]
  rw [er]
  rw [hN] at sp tp w3 ⊢
  repeat (first
    | (with_reducible refine lops_step fun K hK => ?_; simp (disch := first | exact dch | fail) only [go_sem, Nat.reduceAdd, Nat.reduceSub, reduceIte, Nat.reduceEqDiff, Int.reduceToNat, Int.reduceBEq, Int.reduceBNe, w3, bm, hif, hif2, hE1, q, q0]; (try (first | (refine And.intro (fun _ => ?_) (fun h => absurd h (by decide))) | (refine And.intro (fun h => absurd h (by decide)) (fun _ => ?_)))); (repeat (with_reducible refine And.intro acl ?_)); (first | (refine hK _ _ ?_) | (refine ⟨_, rfl, hK _ _ ?_⟩) | (refine Or.inl (hK _ _ ?_)) | (refine ⟨_, _, Or.inl (f0.go _), (by first | exact ⟨[], (List.append_nil _).symm⟩ | exact ⟨_, rfl⟩), hK _ _ ?_⟩) | (refine ⟨_, _, Or.inl (f0.go _), hK _ _ ?_⟩) | (refine ⟨_, _, Or.inl (f0.go _).weakQ, hK _ _ ?_⟩) | (refine ⟨_, _, Or.inl (np0.go _), (by first | exact ⟨[], (List.append_nil _).symm⟩ | exact ⟨_, rfl⟩), hK _ _ ?_⟩) | (refine ⟨_, _, Or.inl (np0.go _), hK _ _ ?_⟩) | (refine ⟨_, _, Or.inl (np0.go _).weakQ, hK _ _ ?_⟩) | (refine ⟨_, _, Or.inl (np5.go _), (by first | exact ⟨[], (List.append_nil _).symm⟩ | exact ⟨_, rfl⟩), hK _ _ ?_⟩) | (refine ⟨_, _, Or.inl (np5.go _), hK _ _ ?_⟩) | (refine ⟨_, _, Or.inl (np5.go _).weakQ, hK _ _ ?_⟩) | (refine ⟨_, _, Or.inl (np8.go _), (by first | exact ⟨[], (List.append_nil _).symm⟩ | exact ⟨_, rfl⟩), hK _ _ ?_⟩) | (refine ⟨_, _, Or.inl (np8.go _), hK _ _ ?_⟩) | (refine ⟨_, _, Or.inl (np8.go _).weakQ, hK _ _ ?_⟩) | (refine ⟨_, _, Or.inl (np11.go _), (by first | exact ⟨[], (List.append_nil _).symm⟩ | exact ⟨_, rfl⟩), hK _ _ ?_⟩) | (refine ⟨_, _, Or.inl (np11.go _), hK _ _ ?_⟩) | (refine ⟨_, _, Or.inl (np11.go _).weakQ, hK _ _ ?_⟩) | (refine ⟨_, _, Or.inl (np14.go _), (by first | exact ⟨[], (List.append_nil _).symm⟩ | exact ⟨_, rfl⟩), hK _ _ ?_⟩) | (refine ⟨_, _, Or.inl (np14.go _), hK _ _ ?_⟩) | (refine ⟨_, _, Or.inl (np14.go _).weakQ, hK _ _ ?_⟩) | (refine ⟨_, _, Or.inl (np17.go _), (by first | exact ⟨[], (List.append_nil _).symm⟩ | exact ⟨_, rfl⟩), hK _ _ ?_⟩) | (refine ⟨_, _, Or.inl (np17.go _), hK _ _ ?_⟩) | (refine ⟨_, _, Or.inl (np17.go _).weakQ, hK _ _ ?_⟩) | (refine ⟨_, _, Or.inl (gp.go _), (by first | exact ⟨[], (List.append_nil _).symm⟩ | exact ⟨_, rfl⟩), hK _ _ ?_⟩) | (refine ⟨_, _, Or.inl (gp.go _), hK _ _ ?_⟩) | (refine ⟨_, _, Or.inl (gp.go _).weakQ, hK _ _ ?_⟩) | (refine ⟨_, _, Or.inl (sp.go _), (by first | exact ⟨[], (List.append_nil _).symm⟩ | exact ⟨_, rfl⟩), hK _ _ ?_⟩) | (refine ⟨_, _, Or.inl (sp.go _), hK _ _ ?_⟩) | (refine ⟨_, _, Or.inl (sp.go _).weakQ, hK _ _ ?_⟩) | (refine ⟨_, _, Or.inl (tp.go _), (by first | exact ⟨[], (List.append_nil _).symm⟩ | exact ⟨_, rfl⟩), hK _ _ ?_⟩) | (refine ⟨_, _, Or.inl (tp.go _), hK _ _ ?_⟩) | (refine ⟨_, _, Or.inl (tp.go _).weakQ, hK _ _ ?_⟩)); clear hK K)
    | (with_reducible refine lops_nil ?_)
    | (with_reducible first | refine lavc_reg ?_ | refine lavc_seq ?_ | refine lavc_block ?_ | refine lavc_skip ?_ | refine lavc_exit ?_ | refine lavc_ret ?_ | refine lavcR_round ?_)
    | (refine lavc_cond rfl (fun _ => ?_) (fun hc => absurd hc (by decide)))
    | (refine lavc_cond rfl (fun hc => absurd hc (by decide)) (fun _ => ?_))
    | (simp only [↓reduceIte, Nat.reduceEqDiff, reduceCtorEq]))
  refine R1 tt ⟨?_⟩
  exact end0 (NR.t2 _ _) rfl
theorem Read_25 (s : ByteArray) (hF : Formed s) (hs : s.size = 25) : PCall Tryz.prog glob 68 [.v (.string s)] (.tup [iv (readP s).1, iv (readP s).2]) := by
  have hF0 := hF
  refine PCall.of ctx.nr nrs (NR.t2 _ _) ?_
  refine lcall68 (by simp) 0 (Nat.le_refl _) ?_
  unfold lc68
  refine I1 tt ⟨?_⟩
  have hif : (if (s.size : Int) < 19 then (s.size : Int) else 19) = ((19 : Nat) : Int) := by
    split <;> omega
  have hif2 : (if (19 : Int) < (s.size : Int) then (19 : Int) else (s.size : Int)) = ((19 : Nat) : Int) := by
    split <;> omega
  have hfo := (formed_iff s 19 (by omega)).1 hF
  have hmi := mom_in hF.1
  obtain ⟨hd19, hcase⟩ := hF
  obtain ⟨h0, _, h5, _, h8, _, h11, _, h14, _, h17⟩ := hd19
  have hz0 : (s.extract 0 19).size ≤ 1000000 := by rw [ext_size]; omega
  have f0 := fits_p (s.extract 0 19) F19 hz0 (by decide)
  rw [decide_eq_true hfo.1] at f0
  have np0 := num4_p s (by omega) h0
  have np5 := num2_p s 5 7 rfl (by omega) h5
  have np8 := num2_p s 8 10 rfl (by omega) h8
  have np11 := num2_p s 11 13 rfl (by omega) h11
  have np14 := num2_p s 14 16 rfl (by omega) h14
  have np17 := num2_p s 17 19 rfl (by omega) h17
  have gp := good_p (momS s) (by show -9223372036854775808 ≤ n2 s 5 ∧ n2 s 5 ≤ 9223372036854775807; omega)
  rw [goodP_ok (momS s) (by show 0 ≤ n2 s 11; omega) (by show 0 ≤ n2 s 14; omega) (by show 0 ≤ n2 s 17; omega)] at gp
  have emv : mv (momS s) = .agg (ints .i64 [n4 s 0, n2 s 5, n2 s 8, n2 s 11, n2 s 14, n2 s 17]) := rfl
  rw [emv] at gp
  have bm : ∀ a b c d e f : Int, (((List.take 0 (List.replicate 6 0) ++ (((List.replicate 3 0).set 0 a).set 1 b).set 2 c ++ List.drop 3 (List.replicate 6 0)).set 3 d).set 4 e).set 5 f = [a, b, c, d, e, f] := fun _ _ _ _ _ _ => rfl
  have hb0 := bt_ext s 19 s.size 0 (by omega)
  rw [Nat.add_zero] at hb0
  have hez : (s.extract 19 s.size).size = s.size - 19 := by rw [ext_size]; omega
  have hE25 : E25 s := by rcases hcase with h | h; omega; exact h.2
  obtain ⟨hsg, h20, h22, h23⟩ := hE25
  have hz1 : (s.extract 19 s.size).size ≤ 1000000 := by omega
  have f1 := fits_p (s.extract 19 s.size) FP hz1 (by decide)
  have f2 := fits_p (s.extract 19 s.size) FM hz1 (by decide)
  have b1 : ∀ i, 19 + i < s.size → bt (s.extract 19 s.size) i = bt s (19 + i) := fun i hi => bt_ext s 19 s.size i hi
  have hE1 : ¬ (s.extract 19 s.size = ⟨#[90]⟩) := fun h => by
    have h1 : (s.extract 19 s.size).size = 1 := by rw [h]; rfl
    omega
  have n20 := n2_in h20
  have n23 := n2_in h23
  obtain ⟨E, hE⟩ : ∃ E, s.extract 19 s.size = E := ⟨_, rfl⟩
  rw [hE] at f1 f2 hfo b1 hE1 hez hb0
  have e20 : n2 E 1 = n2 s 20 := by unfold n2; rw [b1 1 (by omega), b1 2 (by omega)]
  have e23 : n2 E 4 = n2 s 23 := by unfold n2; rw [b1 4 (by omega), b1 5 (by omega)]
  have hes : E.size = 6 := by omega
  have dE1 : dg E 1 ∧ dg E (1 + 1) := by unfold dg; rw [b1 1 (by omega), b1 (1 + 1) (by omega)]; exact h20
  have dE4 : dg E 4 ∧ dg E (4 + 1) := by unfold dg; rw [b1 4 (by omega), b1 (4 + 1) (by omega)]; exact h23
  have np1 := num2_p E 1 3 rfl (by omega) dE1
  have np4 := num2_p E 4 6 rfl (by omega) dE4
  rw [e20] at np1
  rw [e23] at np4
  have q : (E.toList == (⟨#[90]⟩ : ByteArray).toList) = false := by rw [str_beq, decide_eq_false hE1]
  have hbE : ((E.data.toList.getD 0 0).toNat : Int) = bt s 19 := hb0
  obtain ⟨A, hA⟩ : ∃ A, n2 s 20 = A := ⟨_, rfl⟩
  obtain ⟨M, hM⟩ : ∃ M, n2 s 23 = M := ⟨_, rfl⟩
  have w1 := i64z (A * 3600) (by omega)
  have w2 := i64z (M * 60) (by omega)
  have w4 := i64z (A * 3600 + M * 60) (by omega)
  rw [hA] at np1
  rw [hM] at np4
  rcases hsg with hsg | hsg
  · have g1 : Fits E FP := (fitsP E).2 ⟨hes, by unfold DSh; rw [b1 0 (by omega), b1 3 (by omega)]; exact ⟨hsg, dE1, h22, dE4⟩⟩
    rw [decide_eq_true g1] at f1
    have q0 : ((bt s 19 : Int) == 43) = true := by rw [hsg]; rfl
    by_cases ho1 : 23 < A
    · have d1 : decide (A > 23) = true := by rw [decide_eq_true_eq]; omega
      have er : readP s = (0, 12) := by unfold readP; rw [if_neg (not_not_intro hF0), if_pos ⟨hs, by rw [hA]; exact .inl ho1⟩]
      rw [er]
      repeat (first
        | (with_reducible refine lops_step fun K hK => ?_; simp (disch := first | exact dch | fail) only [go_sem, Nat.reduceAdd, Nat.reduceSub, reduceIte, Nat.reduceEqDiff, Int.reduceToNat, Int.reduceBEq, Int.reduceBNe, d1, bm, hif, hif2, hE, q, q0, hbE, hes, w1, w2, w4]; (try (first | (refine And.intro (fun _ => ?_) (fun h => absurd h (by decide))) | (refine And.intro (fun h => absurd h (by decide)) (fun _ => ?_)))); (repeat (with_reducible refine And.intro acl ?_)); (first | (refine hK _ _ ?_) | (refine ⟨_, rfl, hK _ _ ?_⟩) | (refine Or.inl (hK _ _ ?_)) | (refine ⟨_, _, Or.inl (f0.go _), (by first | exact ⟨[], (List.append_nil _).symm⟩ | exact ⟨_, rfl⟩), hK _ _ ?_⟩) | (refine ⟨_, _, Or.inl (f0.go _), hK _ _ ?_⟩) | (refine ⟨_, _, Or.inl (f0.go _).weakQ, hK _ _ ?_⟩) | (refine ⟨_, _, Or.inl (np0.go _), (by first | exact ⟨[], (List.append_nil _).symm⟩ | exact ⟨_, rfl⟩), hK _ _ ?_⟩) | (refine ⟨_, _, Or.inl (np0.go _), hK _ _ ?_⟩) | (refine ⟨_, _, Or.inl (np0.go _).weakQ, hK _ _ ?_⟩) | (refine ⟨_, _, Or.inl (np5.go _), (by first | exact ⟨[], (List.append_nil _).symm⟩ | exact ⟨_, rfl⟩), hK _ _ ?_⟩) | (refine ⟨_, _, Or.inl (np5.go _), hK _ _ ?_⟩) | (refine ⟨_, _, Or.inl (np5.go _).weakQ, hK _ _ ?_⟩) | (refine ⟨_, _, Or.inl (np8.go _), (by first | exact ⟨[], (List.append_nil _).symm⟩ | exact ⟨_, rfl⟩), hK _ _ ?_⟩) | (refine ⟨_, _, Or.inl (np8.go _), hK _ _ ?_⟩) | (refine ⟨_, _, Or.inl (np8.go _).weakQ, hK _ _ ?_⟩) | (refine ⟨_, _, Or.inl (np11.go _), (by first | exact ⟨[], (List.append_nil _).symm⟩ | exact ⟨_, rfl⟩), hK _ _ ?_⟩) | (refine ⟨_, _, Or.inl (np11.go _), hK _ _ ?_⟩) | (refine ⟨_, _, Or.inl (np11.go _).weakQ, hK _ _ ?_⟩) | (refine ⟨_, _, Or.inl (np14.go _), (by first | exact ⟨[], (List.append_nil _).symm⟩ | exact ⟨_, rfl⟩), hK _ _ ?_⟩) | (refine ⟨_, _, Or.inl (np14.go _), hK _ _ ?_⟩) | (refine ⟨_, _, Or.inl (np14.go _).weakQ, hK _ _ ?_⟩) | (refine ⟨_, _, Or.inl (np17.go _), (by first | exact ⟨[], (List.append_nil _).symm⟩ | exact ⟨_, rfl⟩), hK _ _ ?_⟩) | (refine ⟨_, _, Or.inl (np17.go _), hK _ _ ?_⟩) | (refine ⟨_, _, Or.inl (np17.go _).weakQ, hK _ _ ?_⟩) | (refine ⟨_, _, Or.inl (gp.go _), (by first | exact ⟨[], (List.append_nil _).symm⟩ | exact ⟨_, rfl⟩), hK _ _ ?_⟩) | (refine ⟨_, _, Or.inl (gp.go _), hK _ _ ?_⟩) | (refine ⟨_, _, Or.inl (gp.go _).weakQ, hK _ _ ?_⟩) | (refine ⟨_, _, Or.inl (f1.go _), (by first | exact ⟨[], (List.append_nil _).symm⟩ | exact ⟨_, rfl⟩), hK _ _ ?_⟩) | (refine ⟨_, _, Or.inl (f1.go _), hK _ _ ?_⟩) | (refine ⟨_, _, Or.inl (f1.go _).weakQ, hK _ _ ?_⟩) | (refine ⟨_, _, Or.inl (f2.go _), (by first | exact ⟨[], (List.append_nil _).symm⟩ | exact ⟨_, rfl⟩), hK _ _ ?_⟩) | (refine ⟨_, _, Or.inl (f2.go _), hK _ _ ?_⟩) | (refine ⟨_, _, Or.inl (f2.go _).weakQ, hK _ _ ?_⟩) | (refine ⟨_, _, Or.inl (np1.go _), (by first | exact ⟨[], (List.append_nil _).symm⟩ | exact ⟨_, rfl⟩), hK _ _ ?_⟩) | (refine ⟨_, _, Or.inl (np1.go _), hK _ _ ?_⟩) | (refine ⟨_, _, Or.inl (np1.go _).weakQ, hK _ _ ?_⟩) | (refine ⟨_, _, Or.inl (np4.go _), (by first | exact ⟨[], (List.append_nil _).symm⟩ | exact ⟨_, rfl⟩), hK _ _ ?_⟩) | (refine ⟨_, _, Or.inl (np4.go _), hK _ _ ?_⟩) | (refine ⟨_, _, Or.inl (np4.go _).weakQ, hK _ _ ?_⟩)); clear hK K)
        | (with_reducible refine lops_nil ?_)
        | (with_reducible first | refine lavc_reg ?_ | refine lavc_seq ?_ | refine lavc_block ?_ | refine lavc_skip ?_ | refine lavc_exit ?_ | refine lavc_ret ?_ | refine lavcR_round ?_)
        | (refine lavc_cond rfl (fun _ => ?_) (fun hc => absurd hc (by decide)))
        | (refine lavc_cond rfl (fun hc => absurd hc (by decide)) (fun _ => ?_))
        | (simp only [↓reduceIte, Nat.reduceEqDiff, reduceCtorEq]))
      refine R1 tt ⟨?_⟩
      exact end0 (NR.t2 _ _) rfl
    have d1 : decide (A > 23) = false := by rw [decide_eq_false_iff_not]; omega
    by_cases ho2 : 59 < M
    · have d2 : decide (M > 59) = true := by rw [decide_eq_true_eq]; omega
      have er : readP s = (0, 12) := by unfold readP; rw [if_neg (not_not_intro hF0), if_pos ⟨hs, by rw [hM]; exact .inr ho2⟩]
      rw [er]
      repeat (first
        | (with_reducible refine lops_step fun K hK => ?_; simp (disch := first | exact dch | fail) only [go_sem, Nat.reduceAdd, Nat.reduceSub, reduceIte, Nat.reduceEqDiff, Int.reduceToNat, Int.reduceBEq, Int.reduceBNe, d1, d2, bm, hif, hif2, hE, q, q0, hbE, hes, w1, w2, w4]; (try (first | (refine And.intro (fun _ => ?_) (fun h => absurd h (by decide))) | (refine And.intro (fun h => absurd h (by decide)) (fun _ => ?_)))); (repeat (with_reducible refine And.intro acl ?_)); (first | (refine hK _ _ ?_) | (refine ⟨_, rfl, hK _ _ ?_⟩) | (refine Or.inl (hK _ _ ?_)) | (refine ⟨_, _, Or.inl (f0.go _), (by first | exact ⟨[], (List.append_nil _).symm⟩ | exact ⟨_, rfl⟩), hK _ _ ?_⟩) | (refine ⟨_, _, Or.inl (f0.go _), hK _ _ ?_⟩) | (refine ⟨_, _, Or.inl (f0.go _).weakQ, hK _ _ ?_⟩) | (refine ⟨_, _, Or.inl (np0.go _), (by first | exact ⟨[], (List.append_nil _).symm⟩ | exact ⟨_, rfl⟩), hK _ _ ?_⟩) | (refine ⟨_, _, Or.inl (np0.go _), hK _ _ ?_⟩) | (refine ⟨_, _, Or.inl (np0.go _).weakQ, hK _ _ ?_⟩) | (refine ⟨_, _, Or.inl (np5.go _), (by first | exact ⟨[], (List.append_nil _).symm⟩ | exact ⟨_, rfl⟩), hK _ _ ?_⟩) | (refine ⟨_, _, Or.inl (np5.go _), hK _ _ ?_⟩) | (refine ⟨_, _, Or.inl (np5.go _).weakQ, hK _ _ ?_⟩) | (refine ⟨_, _, Or.inl (np8.go _), (by first | exact ⟨[], (List.append_nil _).symm⟩ | exact ⟨_, rfl⟩), hK _ _ ?_⟩) | (refine ⟨_, _, Or.inl (np8.go _), hK _ _ ?_⟩) | (refine ⟨_, _, Or.inl (np8.go _).weakQ, hK _ _ ?_⟩) | (refine ⟨_, _, Or.inl (np11.go _), (by first | exact ⟨[], (List.append_nil _).symm⟩ | exact ⟨_, rfl⟩), hK _ _ ?_⟩) | (refine ⟨_, _, Or.inl (np11.go _), hK _ _ ?_⟩) | (refine ⟨_, _, Or.inl (np11.go _).weakQ, hK _ _ ?_⟩) | (refine ⟨_, _, Or.inl (np14.go _), (by first | exact ⟨[], (List.append_nil _).symm⟩ | exact ⟨_, rfl⟩), hK _ _ ?_⟩) | (refine ⟨_, _, Or.inl (np14.go _), hK _ _ ?_⟩) | (refine ⟨_, _, Or.inl (np14.go _).weakQ, hK _ _ ?_⟩) | (refine ⟨_, _, Or.inl (np17.go _), (by first | exact ⟨[], (List.append_nil _).symm⟩ | exact ⟨_, rfl⟩), hK _ _ ?_⟩) | (refine ⟨_, _, Or.inl (np17.go _), hK _ _ ?_⟩) | (refine ⟨_, _, Or.inl (np17.go _).weakQ, hK _ _ ?_⟩) | (refine ⟨_, _, Or.inl (gp.go _), (by first | exact ⟨[], (List.append_nil _).symm⟩ | exact ⟨_, rfl⟩), hK _ _ ?_⟩) | (refine ⟨_, _, Or.inl (gp.go _), hK _ _ ?_⟩) | (refine ⟨_, _, Or.inl (gp.go _).weakQ, hK _ _ ?_⟩) | (refine ⟨_, _, Or.inl (f1.go _), (by first | exact ⟨[], (List.append_nil _).symm⟩ | exact ⟨_, rfl⟩), hK _ _ ?_⟩) | (refine ⟨_, _, Or.inl (f1.go _), hK _ _ ?_⟩) | (refine ⟨_, _, Or.inl (f1.go _).weakQ, hK _ _ ?_⟩) | (refine ⟨_, _, Or.inl (f2.go _), (by first | exact ⟨[], (List.append_nil _).symm⟩ | exact ⟨_, rfl⟩), hK _ _ ?_⟩) | (refine ⟨_, _, Or.inl (f2.go _), hK _ _ ?_⟩) | (refine ⟨_, _, Or.inl (f2.go _).weakQ, hK _ _ ?_⟩) | (refine ⟨_, _, Or.inl (np1.go _), (by first | exact ⟨[], (List.append_nil _).symm⟩ | exact ⟨_, rfl⟩), hK _ _ ?_⟩) | (refine ⟨_, _, Or.inl (np1.go _), hK _ _ ?_⟩) | (refine ⟨_, _, Or.inl (np1.go _).weakQ, hK _ _ ?_⟩) | (refine ⟨_, _, Or.inl (np4.go _), (by first | exact ⟨[], (List.append_nil _).symm⟩ | exact ⟨_, rfl⟩), hK _ _ ?_⟩) | (refine ⟨_, _, Or.inl (np4.go _), hK _ _ ?_⟩) | (refine ⟨_, _, Or.inl (np4.go _).weakQ, hK _ _ ?_⟩)); clear hK K)
        | (with_reducible refine lops_nil ?_)
        | (with_reducible first | refine lavc_reg ?_ | refine lavc_seq ?_ | refine lavc_block ?_ | refine lavc_skip ?_ | refine lavc_exit ?_ | refine lavc_ret ?_ | refine lavcR_round ?_)
        | (refine lavc_cond rfl (fun _ => ?_) (fun hc => absurd hc (by decide)))
        | (refine lavc_cond rfl (fun hc => absurd hc (by decide)) (fun _ => ?_))
        | (simp only [↓reduceIte, Nat.reduceEqDiff, reduceCtorEq]))
      refine R1 tt ⟨?_⟩
      exact end0 (NR.t2 _ _) rfl
    have d2 : decide (M > 59) = false := by rw [decide_eq_false_iff_not]; omega
    have hov : ¬ (s.size = 25 ∧ (23 < n2 s 20 ∨ 59 < n2 s 23)) := by rw [hA, hM]; omega
    have w5 : IntKind.i64.wrap (0 - (A * 3600 + M * 60)) = -(A * 3600 + M * 60) := by rw [i64z _ (by omega)]; omega
    have hsh : shf s = -(A * 3600 + M * 60) := by unfold shf; rw [if_neg (by omega), if_pos hsg, hA, hM]
    by_cases hok : ¬ (momS s).ok
    · rw [decide_eq_false hok] at gp
      have er : readP s = (0, 12) := by unfold readP; rw [if_neg (not_not_intro hF0), if_neg hov, if_pos hok]
      rw [er]
      repeat (first
        | (with_reducible refine lops_step fun K hK => ?_; simp (disch := first | exact dch | fail) only [go_sem, Nat.reduceAdd, Nat.reduceSub, reduceIte, Nat.reduceEqDiff, Int.reduceToNat, Int.reduceBEq, Int.reduceBNe, d1, d2, w5, bm, hif, hif2, hE, q, q0, hbE, hes, w1, w2, w4]; (try (first | (refine And.intro (fun _ => ?_) (fun h => absurd h (by decide))) | (refine And.intro (fun h => absurd h (by decide)) (fun _ => ?_)))); (repeat (with_reducible refine And.intro acl ?_)); (first | (refine hK _ _ ?_) | (refine ⟨_, rfl, hK _ _ ?_⟩) | (refine Or.inl (hK _ _ ?_)) | (refine ⟨_, _, Or.inl (f0.go _), (by first | exact ⟨[], (List.append_nil _).symm⟩ | exact ⟨_, rfl⟩), hK _ _ ?_⟩) | (refine ⟨_, _, Or.inl (f0.go _), hK _ _ ?_⟩) | (refine ⟨_, _, Or.inl (f0.go _).weakQ, hK _ _ ?_⟩) | (refine ⟨_, _, Or.inl (np0.go _), (by first | exact ⟨[], (List.append_nil _).symm⟩ | exact ⟨_, rfl⟩), hK _ _ ?_⟩) | (refine ⟨_, _, Or.inl (np0.go _), hK _ _ ?_⟩) | (refine ⟨_, _, Or.inl (np0.go _).weakQ, hK _ _ ?_⟩) | (refine ⟨_, _, Or.inl (np5.go _), (by first | exact ⟨[], (List.append_nil _).symm⟩ | exact ⟨_, rfl⟩), hK _ _ ?_⟩) | (refine ⟨_, _, Or.inl (np5.go _), hK _ _ ?_⟩) | (refine ⟨_, _, Or.inl (np5.go _).weakQ, hK _ _ ?_⟩) | (refine ⟨_, _, Or.inl (np8.go _), (by first | exact ⟨[], (List.append_nil _).symm⟩ | exact ⟨_, rfl⟩), hK _ _ ?_⟩) | (refine ⟨_, _, Or.inl (np8.go _), hK _ _ ?_⟩) | (refine ⟨_, _, Or.inl (np8.go _).weakQ, hK _ _ ?_⟩) | (refine ⟨_, _, Or.inl (np11.go _), (by first | exact ⟨[], (List.append_nil _).symm⟩ | exact ⟨_, rfl⟩), hK _ _ ?_⟩) | (refine ⟨_, _, Or.inl (np11.go _), hK _ _ ?_⟩) | (refine ⟨_, _, Or.inl (np11.go _).weakQ, hK _ _ ?_⟩) | (refine ⟨_, _, Or.inl (np14.go _), (by first | exact ⟨[], (List.append_nil _).symm⟩ | exact ⟨_, rfl⟩), hK _ _ ?_⟩) | (refine ⟨_, _, Or.inl (np14.go _), hK _ _ ?_⟩) | (refine ⟨_, _, Or.inl (np14.go _).weakQ, hK _ _ ?_⟩) | (refine ⟨_, _, Or.inl (np17.go _), (by first | exact ⟨[], (List.append_nil _).symm⟩ | exact ⟨_, rfl⟩), hK _ _ ?_⟩) | (refine ⟨_, _, Or.inl (np17.go _), hK _ _ ?_⟩) | (refine ⟨_, _, Or.inl (np17.go _).weakQ, hK _ _ ?_⟩) | (refine ⟨_, _, Or.inl (gp.go _), (by first | exact ⟨[], (List.append_nil _).symm⟩ | exact ⟨_, rfl⟩), hK _ _ ?_⟩) | (refine ⟨_, _, Or.inl (gp.go _), hK _ _ ?_⟩) | (refine ⟨_, _, Or.inl (gp.go _).weakQ, hK _ _ ?_⟩) | (refine ⟨_, _, Or.inl (f1.go _), (by first | exact ⟨[], (List.append_nil _).symm⟩ | exact ⟨_, rfl⟩), hK _ _ ?_⟩) | (refine ⟨_, _, Or.inl (f1.go _), hK _ _ ?_⟩) | (refine ⟨_, _, Or.inl (f1.go _).weakQ, hK _ _ ?_⟩) | (refine ⟨_, _, Or.inl (f2.go _), (by first | exact ⟨[], (List.append_nil _).symm⟩ | exact ⟨_, rfl⟩), hK _ _ ?_⟩) | (refine ⟨_, _, Or.inl (f2.go _), hK _ _ ?_⟩) | (refine ⟨_, _, Or.inl (f2.go _).weakQ, hK _ _ ?_⟩) | (refine ⟨_, _, Or.inl (np1.go _), (by first | exact ⟨[], (List.append_nil _).symm⟩ | exact ⟨_, rfl⟩), hK _ _ ?_⟩) | (refine ⟨_, _, Or.inl (np1.go _), hK _ _ ?_⟩) | (refine ⟨_, _, Or.inl (np1.go _).weakQ, hK _ _ ?_⟩) | (refine ⟨_, _, Or.inl (np4.go _), (by first | exact ⟨[], (List.append_nil _).symm⟩ | exact ⟨_, rfl⟩), hK _ _ ?_⟩) | (refine ⟨_, _, Or.inl (np4.go _), hK _ _ ?_⟩) | (refine ⟨_, _, Or.inl (np4.go _).weakQ, hK _ _ ?_⟩)); clear hK K)
        | (with_reducible refine lops_nil ?_)
        | (with_reducible first | refine lavc_reg ?_ | refine lavc_seq ?_ | refine lavc_block ?_ | refine lavc_skip ?_ | refine lavc_exit ?_ | refine lavc_ret ?_ | refine lavcR_round ?_)
        | (refine lavc_cond rfl (fun _ => ?_) (fun hc => absurd hc (by decide)))
        | (refine lavc_cond rfl (fun hc => absurd hc (by decide)) (fun _ => ?_))
        | (simp only [↓reduceIte, Nat.reduceEqDiff, reduceCtorEq]))
      refine R1 tt ⟨?_⟩
      exact end0 (NR.t2 _ _) rfl
    replace hok := Decidable.not_not.1 hok
    rw [decide_eq_true hok] at gp
    have sp := seconds_p (momS s) hok
    rw [emv] at sp
    have hsi := secs_in hok
    unfold tFirst tLast at hsi
    have w3 := i64z (secs (momS s) + (-(A * 3600 + M * 60))) (by omega)
    have tp := time_p (secs (momS s) + (-(A * 3600 + M * 60)))
    obtain ⟨N, hN⟩ : ∃ N, secs (momS s) = N := ⟨_, rfl⟩
    by_cases ht : ¬ (tFirst ≤ secs (momS s) + (-(A * 3600 + M * 60)) ∧ secs (momS s) + (-(A * 3600 + M * 60)) ≤ tLast)
    · rw [decide_eq_false ht] at tp
      have er : readP s = (0, 12) := by unfold readP; rw [if_neg (not_not_intro hF0), if_neg hov, if_neg (not_not_intro hok), hsh, if_pos ht]
      rw [er]
      rw [hN] at sp tp w3
      repeat (first
        | (with_reducible refine lops_step fun K hK => ?_; simp (disch := first | exact dch | fail) only [go_sem, Nat.reduceAdd, Nat.reduceSub, reduceIte, Nat.reduceEqDiff, Int.reduceToNat, Int.reduceBEq, Int.reduceBNe, w3, d1, d2, w5, bm, hif, hif2, hE, q, q0, hbE, hes, w1, w2, w4]; (try (first | (refine And.intro (fun _ => ?_) (fun h => absurd h (by decide))) | (refine And.intro (fun h => absurd h (by decide)) (fun _ => ?_)))); (repeat (with_reducible refine And.intro acl ?_)); (first | (refine hK _ _ ?_) | (refine ⟨_, rfl, hK _ _ ?_⟩) | (refine Or.inl (hK _ _ ?_)) | (refine ⟨_, _, Or.inl (f0.go _), (by first | exact ⟨[], (List.append_nil _).symm⟩ | exact ⟨_, rfl⟩), hK _ _ ?_⟩) | (refine ⟨_, _, Or.inl (f0.go _), hK _ _ ?_⟩) | (refine ⟨_, _, Or.inl (f0.go _).weakQ, hK _ _ ?_⟩) | (refine ⟨_, _, Or.inl (np0.go _), (by first | exact ⟨[], (List.append_nil _).symm⟩ | exact ⟨_, rfl⟩), hK _ _ ?_⟩) | (refine ⟨_, _, Or.inl (np0.go _), hK _ _ ?_⟩) | (refine ⟨_, _, Or.inl (np0.go _).weakQ, hK _ _ ?_⟩) | (refine ⟨_, _, Or.inl (np5.go _), (by first | exact ⟨[], (List.append_nil _).symm⟩ | exact ⟨_, rfl⟩), hK _ _ ?_⟩) | (refine ⟨_, _, Or.inl (np5.go _), hK _ _ ?_⟩) | (refine ⟨_, _, Or.inl (np5.go _).weakQ, hK _ _ ?_⟩) | (refine ⟨_, _, Or.inl (np8.go _), (by first | exact ⟨[], (List.append_nil _).symm⟩ | exact ⟨_, rfl⟩), hK _ _ ?_⟩) | (refine ⟨_, _, Or.inl (np8.go _), hK _ _ ?_⟩) | (refine ⟨_, _, Or.inl (np8.go _).weakQ, hK _ _ ?_⟩) | (refine ⟨_, _, Or.inl (np11.go _), (by first | exact ⟨[], (List.append_nil _).symm⟩ | exact ⟨_, rfl⟩), hK _ _ ?_⟩) | (refine ⟨_, _, Or.inl (np11.go _), hK _ _ ?_⟩) | (refine ⟨_, _, Or.inl (np11.go _).weakQ, hK _ _ ?_⟩) | (refine ⟨_, _, Or.inl (np14.go _), (by first | exact ⟨[], (List.append_nil _).symm⟩ | exact ⟨_, rfl⟩), hK _ _ ?_⟩) | (refine ⟨_, _, Or.inl (np14.go _), hK _ _ ?_⟩) | (refine ⟨_, _, Or.inl (np14.go _).weakQ, hK _ _ ?_⟩) | (refine ⟨_, _, Or.inl (np17.go _), (by first | exact ⟨[], (List.append_nil _).symm⟩ | exact ⟨_, rfl⟩), hK _ _ ?_⟩) | (refine ⟨_, _, Or.inl (np17.go _), hK _ _ ?_⟩) | (refine ⟨_, _, Or.inl (np17.go _).weakQ, hK _ _ ?_⟩) | (refine ⟨_, _, Or.inl (gp.go _), (by first | exact ⟨[], (List.append_nil _).symm⟩ | exact ⟨_, rfl⟩), hK _ _ ?_⟩) | (refine ⟨_, _, Or.inl (gp.go _), hK _ _ ?_⟩) | (refine ⟨_, _, Or.inl (gp.go _).weakQ, hK _ _ ?_⟩) | (refine ⟨_, _, Or.inl (f1.go _), (by first | exact ⟨[], (List.append_nil _).symm⟩ | exact ⟨_, rfl⟩), hK _ _ ?_⟩) | (refine ⟨_, _, Or.inl (f1.go _), hK _ _ ?_⟩) | (refine ⟨_, _, Or.inl (f1.go _).weakQ, hK _ _ ?_⟩) | (refine ⟨_, _, Or.inl (f2.go _), (by first | exact ⟨[], (List.append_nil _).symm⟩ | exact ⟨_, rfl⟩), hK _ _ ?_⟩) | (refine ⟨_, _, Or.inl (f2.go _), hK _ _ ?_⟩) | (refine ⟨_, _, Or.inl (f2.go _).weakQ, hK _ _ ?_⟩) | (refine ⟨_, _, Or.inl (np1.go _), (by first | exact ⟨[], (List.append_nil _).symm⟩ | exact ⟨_, rfl⟩), hK _ _ ?_⟩) | (refine ⟨_, _, Or.inl (np1.go _), hK _ _ ?_⟩) | (refine ⟨_, _, Or.inl (np1.go _).weakQ, hK _ _ ?_⟩) | (refine ⟨_, _, Or.inl (np4.go _), (by first | exact ⟨[], (List.append_nil _).symm⟩ | exact ⟨_, rfl⟩), hK _ _ ?_⟩) | (refine ⟨_, _, Or.inl (np4.go _), hK _ _ ?_⟩) | (refine ⟨_, _, Or.inl (np4.go _).weakQ, hK _ _ ?_⟩) | (refine ⟨_, _, Or.inl (sp.go _), (by first | exact ⟨[], (List.append_nil _).symm⟩ | exact ⟨_, rfl⟩), hK _ _ ?_⟩) | (refine ⟨_, _, Or.inl (sp.go _), hK _ _ ?_⟩) | (refine ⟨_, _, Or.inl (sp.go _).weakQ, hK _ _ ?_⟩) | (refine ⟨_, _, Or.inl (tp.go _), (by first | exact ⟨[], (List.append_nil _).symm⟩ | exact ⟨_, rfl⟩), hK _ _ ?_⟩) | (refine ⟨_, _, Or.inl (tp.go _), hK _ _ ?_⟩) | (refine ⟨_, _, Or.inl (tp.go _).weakQ, hK _ _ ?_⟩)); clear hK K)
        | (with_reducible refine lops_nil ?_)
        | (with_reducible first | refine lavc_reg ?_ | refine lavc_seq ?_ | refine lavc_block ?_ | refine lavc_skip ?_ | refine lavc_exit ?_ | refine lavc_ret ?_ | refine lavcR_round ?_)
        | (refine lavc_cond rfl (fun _ => ?_) (fun hc => absurd hc (by decide)))
        | (refine lavc_cond rfl (fun hc => absurd hc (by decide)) (fun _ => ?_))
        | (simp only [↓reduceIte, Nat.reduceEqDiff, reduceCtorEq]))
      refine R1 tt ⟨?_⟩
      exact end0 (NR.t2 _ _) rfl
    replace ht := Decidable.not_not.1 ht
    rw [decide_eq_true ht] at tp
    have er : readP s = (secs (momS s) + (-(A * 3600 + M * 60)), 0) := by unfold readP; rw [if_neg (not_not_intro hF0), if_neg hov, if_neg (not_not_intro hok), hsh, if_neg (not_not_intro ht)]
    rw [er]
    rw [hN] at sp tp w3 ⊢
    repeat (first
      | (with_reducible refine lops_step fun K hK => ?_; simp (disch := first | exact dch | fail) only [go_sem, Nat.reduceAdd, Nat.reduceSub, reduceIte, Nat.reduceEqDiff, Int.reduceToNat, Int.reduceBEq, Int.reduceBNe, w3, d1, d2, w5, bm, hif, hif2, hE, q, q0, hbE, hes, w1, w2, w4]; (try (first | (refine And.intro (fun _ => ?_) (fun h => absurd h (by decide))) | (refine And.intro (fun h => absurd h (by decide)) (fun _ => ?_)))); (repeat (with_reducible refine And.intro acl ?_)); (first | (refine hK _ _ ?_) | (refine ⟨_, rfl, hK _ _ ?_⟩) | (refine Or.inl (hK _ _ ?_)) | (refine ⟨_, _, Or.inl (f0.go _), (by first | exact ⟨[], (List.append_nil _).symm⟩ | exact ⟨_, rfl⟩), hK _ _ ?_⟩) | (refine ⟨_, _, Or.inl (f0.go _), hK _ _ ?_⟩) | (refine ⟨_, _, Or.inl (f0.go _).weakQ, hK _ _ ?_⟩) | (refine ⟨_, _, Or.inl (np0.go _), (by first | exact ⟨[], (List.append_nil _).symm⟩ | exact ⟨_, rfl⟩), hK _ _ ?_⟩) | (refine ⟨_, _, Or.inl (np0.go _), hK _ _ ?_⟩) | (refine ⟨_, _, Or.inl (np0.go _).weakQ, hK _ _ ?_⟩) | (refine ⟨_, _, Or.inl (np5.go _), (by first | exact ⟨[], (List.append_nil _).symm⟩ | exact ⟨_, rfl⟩), hK _ _ ?_⟩) | (refine ⟨_, _, Or.inl (np5.go _), hK _ _ ?_⟩) | (refine ⟨_, _, Or.inl (np5.go _).weakQ, hK _ _ ?_⟩) | (refine ⟨_, _, Or.inl (np8.go _), (by first | exact ⟨[], (List.append_nil _).symm⟩ | exact ⟨_, rfl⟩), hK _ _ ?_⟩) | (refine ⟨_, _, Or.inl (np8.go _), hK _ _ ?_⟩) | (refine ⟨_, _, Or.inl (np8.go _).weakQ, hK _ _ ?_⟩) | (refine ⟨_, _, Or.inl (np11.go _), (by first | exact ⟨[], (List.append_nil _).symm⟩ | exact ⟨_, rfl⟩), hK _ _ ?_⟩) | (refine ⟨_, _, Or.inl (np11.go _), hK _ _ ?_⟩) | (refine ⟨_, _, Or.inl (np11.go _).weakQ, hK _ _ ?_⟩) | (refine ⟨_, _, Or.inl (np14.go _), (by first | exact ⟨[], (List.append_nil _).symm⟩ | exact ⟨_, rfl⟩), hK _ _ ?_⟩) | (refine ⟨_, _, Or.inl (np14.go _), hK _ _ ?_⟩) | (refine ⟨_, _, Or.inl (np14.go _).weakQ, hK _ _ ?_⟩) | (refine ⟨_, _, Or.inl (np17.go _), (by first | exact ⟨[], (List.append_nil _).symm⟩ | exact ⟨_, rfl⟩), hK _ _ ?_⟩) | (refine ⟨_, _, Or.inl (np17.go _), hK _ _ ?_⟩) | (refine ⟨_, _, Or.inl (np17.go _).weakQ, hK _ _ ?_⟩) | (refine ⟨_, _, Or.inl (gp.go _), (by first | exact ⟨[], (List.append_nil _).symm⟩ | exact ⟨_, rfl⟩), hK _ _ ?_⟩) | (refine ⟨_, _, Or.inl (gp.go _), hK _ _ ?_⟩) | (refine ⟨_, _, Or.inl (gp.go _).weakQ, hK _ _ ?_⟩) | (refine ⟨_, _, Or.inl (f1.go _), (by first | exact ⟨[], (List.append_nil _).symm⟩ | exact ⟨_, rfl⟩), hK _ _ ?_⟩) | (refine ⟨_, _, Or.inl (f1.go _), hK _ _ ?_⟩) | (refine ⟨_, _, Or.inl (f1.go _).weakQ, hK _ _ ?_⟩) | (refine ⟨_, _, Or.inl (f2.go _), (by first | exact ⟨[], (List.append_nil _).symm⟩ | exact ⟨_, rfl⟩), hK _ _ ?_⟩) | (refine ⟨_, _, Or.inl (f2.go _), hK _ _ ?_⟩) | (refine ⟨_, _, Or.inl (f2.go _).weakQ, hK _ _ ?_⟩) | (refine ⟨_, _, Or.inl (np1.go _), (by first | exact ⟨[], (List.append_nil _).symm⟩ | exact ⟨_, rfl⟩), hK _ _ ?_⟩) | (refine ⟨_, _, Or.inl (np1.go _), hK _ _ ?_⟩) | (refine ⟨_, _, Or.inl (np1.go _).weakQ, hK _ _ ?_⟩) | (refine ⟨_, _, Or.inl (np4.go _), (by first | exact ⟨[], (List.append_nil _).symm⟩ | exact ⟨_, rfl⟩), hK _ _ ?_⟩) | (refine ⟨_, _, Or.inl (np4.go _), hK _ _ ?_⟩) | (refine ⟨_, _, Or.inl (np4.go _).weakQ, hK _ _ ?_⟩) | (refine ⟨_, _, Or.inl (sp.go _), (by first | exact ⟨[], (List.append_nil _).symm⟩ | exact ⟨_, rfl⟩), hK _ _ ?_⟩) | (refine ⟨_, _, Or.inl (sp.go _), hK _ _ ?_⟩) | (refine ⟨_, _, Or.inl (sp.go _).weakQ, hK _ _ ?_⟩) | (refine ⟨_, _, Or.inl (tp.go _), (by first | exact ⟨[], (List.append_nil _).symm⟩ | exact ⟨_, rfl⟩), hK _ _ ?_⟩) | (refine ⟨_, _, Or.inl (tp.go _), hK _ _ ?_⟩) | (refine ⟨_, _, Or.inl (tp.go _).weakQ, hK _ _ ?_⟩)); clear hK K)
      | (with_reducible refine lops_nil ?_)
      | (with_reducible first | refine lavc_reg ?_ | refine lavc_seq ?_ | refine lavc_block ?_ | refine lavc_skip ?_ | refine lavc_exit ?_ | refine lavc_ret ?_ | refine lavcR_round ?_)
      | (refine lavc_cond rfl (fun _ => ?_) (fun hc => absurd hc (by decide)))
      | (refine lavc_cond rfl (fun hc => absurd hc (by decide)) (fun _ => ?_))
      | (simp only [↓reduceIte, Nat.reduceEqDiff, reduceCtorEq]))
    refine R1 tt ⟨?_⟩
    exact end0 (NR.t2 _ _) rfl
  · have g1 : ¬ Fits E FP := fun h => by have := ((fitsP E).1 h).2.1; rw [b1 0 (by omega), hsg] at this; omega
    have g2 : Fits E FM := (fitsM E).2 ⟨hes, by unfold DSh; rw [b1 0 (by omega), b1 3 (by omega)]; exact ⟨hsg, dE1, h22, dE4⟩⟩
    rw [decide_eq_false g1] at f1
    rw [decide_eq_true g2] at f2
    have q0 : ((bt s 19 : Int) == 43) = false := by rw [hsg]; rfl
    by_cases ho1 : 23 < A
    · have d1 : decide (A > 23) = true := by rw [decide_eq_true_eq]; omega
      have er : readP s = (0, 12) := by unfold readP; rw [if_neg (not_not_intro hF0), if_pos ⟨hs, by rw [hA]; exact .inl ho1⟩]
      rw [er]
      repeat (first
        | (with_reducible refine lops_step fun K hK => ?_; simp (disch := first | exact dch | fail) only [go_sem, Nat.reduceAdd, Nat.reduceSub, reduceIte, Nat.reduceEqDiff, Int.reduceToNat, Int.reduceBEq, Int.reduceBNe, d1, bm, hif, hif2, hE, q, q0, hbE, hes, w1, w2, w4]; (try (first | (refine And.intro (fun _ => ?_) (fun h => absurd h (by decide))) | (refine And.intro (fun h => absurd h (by decide)) (fun _ => ?_)))); (repeat (with_reducible refine And.intro acl ?_)); (first | (refine hK _ _ ?_) | (refine ⟨_, rfl, hK _ _ ?_⟩) | (refine Or.inl (hK _ _ ?_)) | (refine ⟨_, _, Or.inl (f0.go _), (by first | exact ⟨[], (List.append_nil _).symm⟩ | exact ⟨_, rfl⟩), hK _ _ ?_⟩) | (refine ⟨_, _, Or.inl (f0.go _), hK _ _ ?_⟩) | (refine ⟨_, _, Or.inl (f0.go _).weakQ, hK _ _ ?_⟩) | (refine ⟨_, _, Or.inl (np0.go _), (by first | exact ⟨[], (List.append_nil _).symm⟩ | exact ⟨_, rfl⟩), hK _ _ ?_⟩) | (refine ⟨_, _, Or.inl (np0.go _), hK _ _ ?_⟩) | (refine ⟨_, _, Or.inl (np0.go _).weakQ, hK _ _ ?_⟩) | (refine ⟨_, _, Or.inl (np5.go _), (by first | exact ⟨[], (List.append_nil _).symm⟩ | exact ⟨_, rfl⟩), hK _ _ ?_⟩) | (refine ⟨_, _, Or.inl (np5.go _), hK _ _ ?_⟩) | (refine ⟨_, _, Or.inl (np5.go _).weakQ, hK _ _ ?_⟩) | (refine ⟨_, _, Or.inl (np8.go _), (by first | exact ⟨[], (List.append_nil _).symm⟩ | exact ⟨_, rfl⟩), hK _ _ ?_⟩) | (refine ⟨_, _, Or.inl (np8.go _), hK _ _ ?_⟩) | (refine ⟨_, _, Or.inl (np8.go _).weakQ, hK _ _ ?_⟩) | (refine ⟨_, _, Or.inl (np11.go _), (by first | exact ⟨[], (List.append_nil _).symm⟩ | exact ⟨_, rfl⟩), hK _ _ ?_⟩) | (refine ⟨_, _, Or.inl (np11.go _), hK _ _ ?_⟩) | (refine ⟨_, _, Or.inl (np11.go _).weakQ, hK _ _ ?_⟩) | (refine ⟨_, _, Or.inl (np14.go _), (by first | exact ⟨[], (List.append_nil _).symm⟩ | exact ⟨_, rfl⟩), hK _ _ ?_⟩) | (refine ⟨_, _, Or.inl (np14.go _), hK _ _ ?_⟩) | (refine ⟨_, _, Or.inl (np14.go _).weakQ, hK _ _ ?_⟩) | (refine ⟨_, _, Or.inl (np17.go _), (by first | exact ⟨[], (List.append_nil _).symm⟩ | exact ⟨_, rfl⟩), hK _ _ ?_⟩) | (refine ⟨_, _, Or.inl (np17.go _), hK _ _ ?_⟩) | (refine ⟨_, _, Or.inl (np17.go _).weakQ, hK _ _ ?_⟩) | (refine ⟨_, _, Or.inl (gp.go _), (by first | exact ⟨[], (List.append_nil _).symm⟩ | exact ⟨_, rfl⟩), hK _ _ ?_⟩) | (refine ⟨_, _, Or.inl (gp.go _), hK _ _ ?_⟩) | (refine ⟨_, _, Or.inl (gp.go _).weakQ, hK _ _ ?_⟩) | (refine ⟨_, _, Or.inl (f1.go _), (by first | exact ⟨[], (List.append_nil _).symm⟩ | exact ⟨_, rfl⟩), hK _ _ ?_⟩) | (refine ⟨_, _, Or.inl (f1.go _), hK _ _ ?_⟩) | (refine ⟨_, _, Or.inl (f1.go _).weakQ, hK _ _ ?_⟩) | (refine ⟨_, _, Or.inl (f2.go _), (by first | exact ⟨[], (List.append_nil _).symm⟩ | exact ⟨_, rfl⟩), hK _ _ ?_⟩) | (refine ⟨_, _, Or.inl (f2.go _), hK _ _ ?_⟩) | (refine ⟨_, _, Or.inl (f2.go _).weakQ, hK _ _ ?_⟩) | (refine ⟨_, _, Or.inl (np1.go _), (by first | exact ⟨[], (List.append_nil _).symm⟩ | exact ⟨_, rfl⟩), hK _ _ ?_⟩) | (refine ⟨_, _, Or.inl (np1.go _), hK _ _ ?_⟩) | (refine ⟨_, _, Or.inl (np1.go _).weakQ, hK _ _ ?_⟩) | (refine ⟨_, _, Or.inl (np4.go _), (by first | exact ⟨[], (List.append_nil _).symm⟩ | exact ⟨_, rfl⟩), hK _ _ ?_⟩) | (refine ⟨_, _, Or.inl (np4.go _), hK _ _ ?_⟩) | (refine ⟨_, _, Or.inl (np4.go _).weakQ, hK _ _ ?_⟩)); clear hK K)
        | (with_reducible refine lops_nil ?_)
        | (with_reducible first | refine lavc_reg ?_ | refine lavc_seq ?_ | refine lavc_block ?_ | refine lavc_skip ?_ | refine lavc_exit ?_ | refine lavc_ret ?_ | refine lavcR_round ?_)
        | (refine lavc_cond rfl (fun _ => ?_) (fun hc => absurd hc (by decide)))
        | (refine lavc_cond rfl (fun hc => absurd hc (by decide)) (fun _ => ?_))
        | (simp only [↓reduceIte, Nat.reduceEqDiff, reduceCtorEq]))
      refine R1 tt ⟨?_⟩
      exact end0 (NR.t2 _ _) rfl
    have d1 : decide (A > 23) = false := by rw [decide_eq_false_iff_not]; omega
    by_cases ho2 : 59 < M
    · have d2 : decide (M > 59) = true := by rw [decide_eq_true_eq]; omega
      have er : readP s = (0, 12) := by unfold readP; rw [if_neg (not_not_intro hF0), if_pos ⟨hs, by rw [hM]; exact .inr ho2⟩]
      rw [er]
      repeat (first
        | (with_reducible refine lops_step fun K hK => ?_; simp (disch := first | exact dch | fail) only [go_sem, Nat.reduceAdd, Nat.reduceSub, reduceIte, Nat.reduceEqDiff, Int.reduceToNat, Int.reduceBEq, Int.reduceBNe, d1, d2, bm, hif, hif2, hE, q, q0, hbE, hes, w1, w2, w4]; (try (first | (refine And.intro (fun _ => ?_) (fun h => absurd h (by decide))) | (refine And.intro (fun h => absurd h (by decide)) (fun _ => ?_)))); (repeat (with_reducible refine And.intro acl ?_)); (first | (refine hK _ _ ?_) | (refine ⟨_, rfl, hK _ _ ?_⟩) | (refine Or.inl (hK _ _ ?_)) | (refine ⟨_, _, Or.inl (f0.go _), (by first | exact ⟨[], (List.append_nil _).symm⟩ | exact ⟨_, rfl⟩), hK _ _ ?_⟩) | (refine ⟨_, _, Or.inl (f0.go _), hK _ _ ?_⟩) | (refine ⟨_, _, Or.inl (f0.go _).weakQ, hK _ _ ?_⟩) | (refine ⟨_, _, Or.inl (np0.go _), (by first | exact ⟨[], (List.append_nil _).symm⟩ | exact ⟨_, rfl⟩), hK _ _ ?_⟩) | (refine ⟨_, _, Or.inl (np0.go _), hK _ _ ?_⟩) | (refine ⟨_, _, Or.inl (np0.go _).weakQ, hK _ _ ?_⟩) | (refine ⟨_, _, Or.inl (np5.go _), (by first | exact ⟨[], (List.append_nil _).symm⟩ | exact ⟨_, rfl⟩), hK _ _ ?_⟩) | (refine ⟨_, _, Or.inl (np5.go _), hK _ _ ?_⟩) | (refine ⟨_, _, Or.inl (np5.go _).weakQ, hK _ _ ?_⟩) | (refine ⟨_, _, Or.inl (np8.go _), (by first | exact ⟨[], (List.append_nil _).symm⟩ | exact ⟨_, rfl⟩), hK _ _ ?_⟩) | (refine ⟨_, _, Or.inl (np8.go _), hK _ _ ?_⟩) | (refine ⟨_, _, Or.inl (np8.go _).weakQ, hK _ _ ?_⟩) | (refine ⟨_, _, Or.inl (np11.go _), (by first | exact ⟨[], (List.append_nil _).symm⟩ | exact ⟨_, rfl⟩), hK _ _ ?_⟩) | (refine ⟨_, _, Or.inl (np11.go _), hK _ _ ?_⟩) | (refine ⟨_, _, Or.inl (np11.go _).weakQ, hK _ _ ?_⟩) | (refine ⟨_, _, Or.inl (np14.go _), (by first | exact ⟨[], (List.append_nil _).symm⟩ | exact ⟨_, rfl⟩), hK _ _ ?_⟩) | (refine ⟨_, _, Or.inl (np14.go _), hK _ _ ?_⟩) | (refine ⟨_, _, Or.inl (np14.go _).weakQ, hK _ _ ?_⟩) | (refine ⟨_, _, Or.inl (np17.go _), (by first | exact ⟨[], (List.append_nil _).symm⟩ | exact ⟨_, rfl⟩), hK _ _ ?_⟩) | (refine ⟨_, _, Or.inl (np17.go _), hK _ _ ?_⟩) | (refine ⟨_, _, Or.inl (np17.go _).weakQ, hK _ _ ?_⟩) | (refine ⟨_, _, Or.inl (gp.go _), (by first | exact ⟨[], (List.append_nil _).symm⟩ | exact ⟨_, rfl⟩), hK _ _ ?_⟩) | (refine ⟨_, _, Or.inl (gp.go _), hK _ _ ?_⟩) | (refine ⟨_, _, Or.inl (gp.go _).weakQ, hK _ _ ?_⟩) | (refine ⟨_, _, Or.inl (f1.go _), (by first | exact ⟨[], (List.append_nil _).symm⟩ | exact ⟨_, rfl⟩), hK _ _ ?_⟩) | (refine ⟨_, _, Or.inl (f1.go _), hK _ _ ?_⟩) | (refine ⟨_, _, Or.inl (f1.go _).weakQ, hK _ _ ?_⟩) | (refine ⟨_, _, Or.inl (f2.go _), (by first | exact ⟨[], (List.append_nil _).symm⟩ | exact ⟨_, rfl⟩), hK _ _ ?_⟩) | (refine ⟨_, _, Or.inl (f2.go _), hK _ _ ?_⟩) | (refine ⟨_, _, Or.inl (f2.go _).weakQ, hK _ _ ?_⟩) | (refine ⟨_, _, Or.inl (np1.go _), (by first | exact ⟨[], (List.append_nil _).symm⟩ | exact ⟨_, rfl⟩), hK _ _ ?_⟩) | (refine ⟨_, _, Or.inl (np1.go _), hK _ _ ?_⟩) | (refine ⟨_, _, Or.inl (np1.go _).weakQ, hK _ _ ?_⟩) | (refine ⟨_, _, Or.inl (np4.go _), (by first | exact ⟨[], (List.append_nil _).symm⟩ | exact ⟨_, rfl⟩), hK _ _ ?_⟩) | (refine ⟨_, _, Or.inl (np4.go _), hK _ _ ?_⟩) | (refine ⟨_, _, Or.inl (np4.go _).weakQ, hK _ _ ?_⟩)); clear hK K)
        | (with_reducible refine lops_nil ?_)
        | (with_reducible first | refine lavc_reg ?_ | refine lavc_seq ?_ | refine lavc_block ?_ | refine lavc_skip ?_ | refine lavc_exit ?_ | refine lavc_ret ?_ | refine lavcR_round ?_)
        | (refine lavc_cond rfl (fun _ => ?_) (fun hc => absurd hc (by decide)))
        | (refine lavc_cond rfl (fun hc => absurd hc (by decide)) (fun _ => ?_))
        | (simp only [↓reduceIte, Nat.reduceEqDiff, reduceCtorEq]))
      refine R1 tt ⟨?_⟩
      exact end0 (NR.t2 _ _) rfl
    have d2 : decide (M > 59) = false := by rw [decide_eq_false_iff_not]; omega
    have hov : ¬ (s.size = 25 ∧ (23 < n2 s 20 ∨ 59 < n2 s 23)) := by rw [hA, hM]; omega
    have w5 := trivial
    have hsh : shf s = A * 3600 + M * 60 := by unfold shf; rw [if_neg (by omega), if_neg (by omega), hA, hM]
    by_cases hok : ¬ (momS s).ok
    · rw [decide_eq_false hok] at gp
      have er : readP s = (0, 12) := by unfold readP; rw [if_neg (not_not_intro hF0), if_neg hov, if_pos hok]
      rw [er]
      repeat (first
        | (with_reducible refine lops_step fun K hK => ?_; simp (disch := first | exact dch | fail) only [go_sem, Nat.reduceAdd, Nat.reduceSub, reduceIte, Nat.reduceEqDiff, Int.reduceToNat, Int.reduceBEq, Int.reduceBNe, d1, d2, bm, hif, hif2, hE, q, q0, hbE, hes, w1, w2, w4]; (try (first | (refine And.intro (fun _ => ?_) (fun h => absurd h (by decide))) | (refine And.intro (fun h => absurd h (by decide)) (fun _ => ?_)))); (repeat (with_reducible refine And.intro acl ?_)); (first | (refine hK _ _ ?_) | (refine ⟨_, rfl, hK _ _ ?_⟩) | (refine Or.inl (hK _ _ ?_)) | (refine ⟨_, _, Or.inl (f0.go _), (by first | exact ⟨[], (List.append_nil _).symm⟩ | exact ⟨_, rfl⟩), hK _ _ ?_⟩) | (refine ⟨_, _, Or.inl (f0.go _), hK _ _ ?_⟩) | (refine ⟨_, _, Or.inl (f0.go _).weakQ, hK _ _ ?_⟩) | (refine ⟨_, _, Or.inl (np0.go _), (by first | exact ⟨[], (List.append_nil _).symm⟩ | exact ⟨_, rfl⟩), hK _ _ ?_⟩) | (refine ⟨_, _, Or.inl (np0.go _), hK _ _ ?_⟩) | (refine ⟨_, _, Or.inl (np0.go _).weakQ, hK _ _ ?_⟩) | (refine ⟨_, _, Or.inl (np5.go _), (by first | exact ⟨[], (List.append_nil _).symm⟩ | exact ⟨_, rfl⟩), hK _ _ ?_⟩) | (refine ⟨_, _, Or.inl (np5.go _), hK _ _ ?_⟩) | (refine ⟨_, _, Or.inl (np5.go _).weakQ, hK _ _ ?_⟩) | (refine ⟨_, _, Or.inl (np8.go _), (by first | exact ⟨[], (List.append_nil _).symm⟩ | exact ⟨_, rfl⟩), hK _ _ ?_⟩) | (refine ⟨_, _, Or.inl (np8.go _), hK _ _ ?_⟩) | (refine ⟨_, _, Or.inl (np8.go _).weakQ, hK _ _ ?_⟩) | (refine ⟨_, _, Or.inl (np11.go _), (by first | exact ⟨[], (List.append_nil _).symm⟩ | exact ⟨_, rfl⟩), hK _ _ ?_⟩) | (refine ⟨_, _, Or.inl (np11.go _), hK _ _ ?_⟩) | (refine ⟨_, _, Or.inl (np11.go _).weakQ, hK _ _ ?_⟩) | (refine ⟨_, _, Or.inl (np14.go _), (by first | exact ⟨[], (List.append_nil _).symm⟩ | exact ⟨_, rfl⟩), hK _ _ ?_⟩) | (refine ⟨_, _, Or.inl (np14.go _), hK _ _ ?_⟩) | (refine ⟨_, _, Or.inl (np14.go _).weakQ, hK _ _ ?_⟩) | (refine ⟨_, _, Or.inl (np17.go _), (by first | exact ⟨[], (List.append_nil _).symm⟩ | exact ⟨_, rfl⟩), hK _ _ ?_⟩) | (refine ⟨_, _, Or.inl (np17.go _), hK _ _ ?_⟩) | (refine ⟨_, _, Or.inl (np17.go _).weakQ, hK _ _ ?_⟩) | (refine ⟨_, _, Or.inl (gp.go _), (by first | exact ⟨[], (List.append_nil _).symm⟩ | exact ⟨_, rfl⟩), hK _ _ ?_⟩) | (refine ⟨_, _, Or.inl (gp.go _), hK _ _ ?_⟩) | (refine ⟨_, _, Or.inl (gp.go _).weakQ, hK _ _ ?_⟩) | (refine ⟨_, _, Or.inl (f1.go _), (by first | exact ⟨[], (List.append_nil _).symm⟩ | exact ⟨_, rfl⟩), hK _ _ ?_⟩) | (refine ⟨_, _, Or.inl (f1.go _), hK _ _ ?_⟩) | (refine ⟨_, _, Or.inl (f1.go _).weakQ, hK _ _ ?_⟩) | (refine ⟨_, _, Or.inl (f2.go _), (by first | exact ⟨[], (List.append_nil _).symm⟩ | exact ⟨_, rfl⟩), hK _ _ ?_⟩) | (refine ⟨_, _, Or.inl (f2.go _), hK _ _ ?_⟩) | (refine ⟨_, _, Or.inl (f2.go _).weakQ, hK _ _ ?_⟩) | (refine ⟨_, _, Or.inl (np1.go _), (by first | exact ⟨[], (List.append_nil _).symm⟩ | exact ⟨_, rfl⟩), hK _ _ ?_⟩) | (refine ⟨_, _, Or.inl (np1.go _), hK _ _ ?_⟩) | (refine ⟨_, _, Or.inl (np1.go _).weakQ, hK _ _ ?_⟩) | (refine ⟨_, _, Or.inl (np4.go _), (by first | exact ⟨[], (List.append_nil _).symm⟩ | exact ⟨_, rfl⟩), hK _ _ ?_⟩) | (refine ⟨_, _, Or.inl (np4.go _), hK _ _ ?_⟩) | (refine ⟨_, _, Or.inl (np4.go _).weakQ, hK _ _ ?_⟩)); clear hK K)
        | (with_reducible refine lops_nil ?_)
        | (with_reducible first | refine lavc_reg ?_ | refine lavc_seq ?_ | refine lavc_block ?_ | refine lavc_skip ?_ | refine lavc_exit ?_ | refine lavc_ret ?_ | refine lavcR_round ?_)
        | (refine lavc_cond rfl (fun _ => ?_) (fun hc => absurd hc (by decide)))
        | (refine lavc_cond rfl (fun hc => absurd hc (by decide)) (fun _ => ?_))
        | (simp only [↓reduceIte, Nat.reduceEqDiff, reduceCtorEq]))
      refine R1 tt ⟨?_⟩
      exact end0 (NR.t2 _ _) rfl
    replace hok := Decidable.not_not.1 hok
    rw [decide_eq_true hok] at gp
    have sp := seconds_p (momS s) hok
    rw [emv] at sp
    have hsi := secs_in hok
    unfold tFirst tLast at hsi
    have w3 := i64z (secs (momS s) + (A * 3600 + M * 60)) (by omega)
    have tp := time_p (secs (momS s) + (A * 3600 + M * 60))
    obtain ⟨N, hN⟩ : ∃ N, secs (momS s) = N := ⟨_, rfl⟩
    by_cases ht : ¬ (tFirst ≤ secs (momS s) + (A * 3600 + M * 60) ∧ secs (momS s) + (A * 3600 + M * 60) ≤ tLast)
    · rw [decide_eq_false ht] at tp
      have er : readP s = (0, 12) := by unfold readP; rw [if_neg (not_not_intro hF0), if_neg hov, if_neg (not_not_intro hok), hsh, if_pos ht]
      rw [er]
      rw [hN] at sp tp w3
      repeat (first
        | (with_reducible refine lops_step fun K hK => ?_; simp (disch := first | exact dch | fail) only [go_sem, Nat.reduceAdd, Nat.reduceSub, reduceIte, Nat.reduceEqDiff, Int.reduceToNat, Int.reduceBEq, Int.reduceBNe, w3, d1, d2, bm, hif, hif2, hE, q, q0, hbE, hes, w1, w2, w4]; (try (first | (refine And.intro (fun _ => ?_) (fun h => absurd h (by decide))) | (refine And.intro (fun h => absurd h (by decide)) (fun _ => ?_)))); (repeat (with_reducible refine And.intro acl ?_)); (first | (refine hK _ _ ?_) | (refine ⟨_, rfl, hK _ _ ?_⟩) | (refine Or.inl (hK _ _ ?_)) | (refine ⟨_, _, Or.inl (f0.go _), (by first | exact ⟨[], (List.append_nil _).symm⟩ | exact ⟨_, rfl⟩), hK _ _ ?_⟩) | (refine ⟨_, _, Or.inl (f0.go _), hK _ _ ?_⟩) | (refine ⟨_, _, Or.inl (f0.go _).weakQ, hK _ _ ?_⟩) | (refine ⟨_, _, Or.inl (np0.go _), (by first | exact ⟨[], (List.append_nil _).symm⟩ | exact ⟨_, rfl⟩), hK _ _ ?_⟩) | (refine ⟨_, _, Or.inl (np0.go _), hK _ _ ?_⟩) | (refine ⟨_, _, Or.inl (np0.go _).weakQ, hK _ _ ?_⟩) | (refine ⟨_, _, Or.inl (np5.go _), (by first | exact ⟨[], (List.append_nil _).symm⟩ | exact ⟨_, rfl⟩), hK _ _ ?_⟩) | (refine ⟨_, _, Or.inl (np5.go _), hK _ _ ?_⟩) | (refine ⟨_, _, Or.inl (np5.go _).weakQ, hK _ _ ?_⟩) | (refine ⟨_, _, Or.inl (np8.go _), (by first | exact ⟨[], (List.append_nil _).symm⟩ | exact ⟨_, rfl⟩), hK _ _ ?_⟩) | (refine ⟨_, _, Or.inl (np8.go _), hK _ _ ?_⟩) | (refine ⟨_, _, Or.inl (np8.go _).weakQ, hK _ _ ?_⟩) | (refine ⟨_, _, Or.inl (np11.go _), (by first | exact ⟨[], (List.append_nil _).symm⟩ | exact ⟨_, rfl⟩), hK _ _ ?_⟩) | (refine ⟨_, _, Or.inl (np11.go _), hK _ _ ?_⟩) | (refine ⟨_, _, Or.inl (np11.go _).weakQ, hK _ _ ?_⟩) | (refine ⟨_, _, Or.inl (np14.go _), (by first | exact ⟨[], (List.append_nil _).symm⟩ | exact ⟨_, rfl⟩), hK _ _ ?_⟩) | (refine ⟨_, _, Or.inl (np14.go _), hK _ _ ?_⟩) | (refine ⟨_, _, Or.inl (np14.go _).weakQ, hK _ _ ?_⟩) | (refine ⟨_, _, Or.inl (np17.go _), (by first | exact ⟨[], (List.append_nil _).symm⟩ | exact ⟨_, rfl⟩), hK _ _ ?_⟩) | (refine ⟨_, _, Or.inl (np17.go _), hK _ _ ?_⟩) | (refine ⟨_, _, Or.inl (np17.go _).weakQ, hK _ _ ?_⟩) | (refine ⟨_, _, Or.inl (gp.go _), (by first | exact ⟨[], (List.append_nil _).symm⟩ | exact ⟨_, rfl⟩), hK _ _ ?_⟩) | (refine ⟨_, _, Or.inl (gp.go _), hK _ _ ?_⟩) | (refine ⟨_, _, Or.inl (gp.go _).weakQ, hK _ _ ?_⟩) | (refine ⟨_, _, Or.inl (f1.go _), (by first | exact ⟨[], (List.append_nil _).symm⟩ | exact ⟨_, rfl⟩), hK _ _ ?_⟩) | (refine ⟨_, _, Or.inl (f1.go _), hK _ _ ?_⟩) | (refine ⟨_, _, Or.inl (f1.go _).weakQ, hK _ _ ?_⟩) | (refine ⟨_, _, Or.inl (f2.go _), (by first | exact ⟨[], (List.append_nil _).symm⟩ | exact ⟨_, rfl⟩), hK _ _ ?_⟩) | (refine ⟨_, _, Or.inl (f2.go _), hK _ _ ?_⟩) | (refine ⟨_, _, Or.inl (f2.go _).weakQ, hK _ _ ?_⟩) | (refine ⟨_, _, Or.inl (np1.go _), (by first | exact ⟨[], (List.append_nil _).symm⟩ | exact ⟨_, rfl⟩), hK _ _ ?_⟩) | (refine ⟨_, _, Or.inl (np1.go _), hK _ _ ?_⟩) | (refine ⟨_, _, Or.inl (np1.go _).weakQ, hK _ _ ?_⟩) | (refine ⟨_, _, Or.inl (np4.go _), (by first | exact ⟨[], (List.append_nil _).symm⟩ | exact ⟨_, rfl⟩), hK _ _ ?_⟩) | (refine ⟨_, _, Or.inl (np4.go _), hK _ _ ?_⟩) | (refine ⟨_, _, Or.inl (np4.go _).weakQ, hK _ _ ?_⟩) | (refine ⟨_, _, Or.inl (sp.go _), (by first | exact ⟨[], (List.append_nil _).symm⟩ | exact ⟨_, rfl⟩), hK _ _ ?_⟩) | (refine ⟨_, _, Or.inl (sp.go _), hK _ _ ?_⟩) | (refine ⟨_, _, Or.inl (sp.go _).weakQ, hK _ _ ?_⟩) | (refine ⟨_, _, Or.inl (tp.go _), (by first | exact ⟨[], (List.append_nil _).symm⟩ | exact ⟨_, rfl⟩), hK _ _ ?_⟩) | (refine ⟨_, _, Or.inl (tp.go _), hK _ _ ?_⟩) | (refine ⟨_, _, Or.inl (tp.go _).weakQ, hK _ _ ?_⟩)); clear hK K)
        | (with_reducible refine lops_nil ?_)
        | (with_reducible first | refine lavc_reg ?_ | refine lavc_seq ?_ | refine lavc_block ?_ | refine lavc_skip ?_ | refine lavc_exit ?_ | refine lavc_ret ?_ | refine lavcR_round ?_)
        | (refine lavc_cond rfl (fun _ => ?_) (fun hc => absurd hc (by decide)))
        | (refine lavc_cond rfl (fun hc => absurd hc (by decide)) (fun _ => ?_))
        | (simp only [↓reduceIte, Nat.reduceEqDiff, reduceCtorEq]))
      refine R1 tt ⟨?_⟩
      exact end0 (NR.t2 _ _) rfl
    replace ht := Decidable.not_not.1 ht
    rw [decide_eq_true ht] at tp
    have er : readP s = (secs (momS s) + (A * 3600 + M * 60), 0) := by unfold readP; rw [if_neg (not_not_intro hF0), if_neg hov, if_neg (not_not_intro hok), hsh, if_neg (not_not_intro ht)]
    rw [er]
    rw [hN] at sp tp w3 ⊢
    repeat (first
      | (with_reducible refine lops_step fun K hK => ?_; simp (disch := first | exact dch | fail) only [go_sem, Nat.reduceAdd, Nat.reduceSub, reduceIte, Nat.reduceEqDiff, Int.reduceToNat, Int.reduceBEq, Int.reduceBNe, w3, d1, d2, bm, hif, hif2, hE, q, q0, hbE, hes, w1, w2, w4]; (try (first | (refine And.intro (fun _ => ?_) (fun h => absurd h (by decide))) | (refine And.intro (fun h => absurd h (by decide)) (fun _ => ?_)))); (repeat (with_reducible refine And.intro acl ?_)); (first | (refine hK _ _ ?_) | (refine ⟨_, rfl, hK _ _ ?_⟩) | (refine Or.inl (hK _ _ ?_)) | (refine ⟨_, _, Or.inl (f0.go _), (by first | exact ⟨[], (List.append_nil _).symm⟩ | exact ⟨_, rfl⟩), hK _ _ ?_⟩) | (refine ⟨_, _, Or.inl (f0.go _), hK _ _ ?_⟩) | (refine ⟨_, _, Or.inl (f0.go _).weakQ, hK _ _ ?_⟩) | (refine ⟨_, _, Or.inl (np0.go _), (by first | exact ⟨[], (List.append_nil _).symm⟩ | exact ⟨_, rfl⟩), hK _ _ ?_⟩) | (refine ⟨_, _, Or.inl (np0.go _), hK _ _ ?_⟩) | (refine ⟨_, _, Or.inl (np0.go _).weakQ, hK _ _ ?_⟩) | (refine ⟨_, _, Or.inl (np5.go _), (by first | exact ⟨[], (List.append_nil _).symm⟩ | exact ⟨_, rfl⟩), hK _ _ ?_⟩) | (refine ⟨_, _, Or.inl (np5.go _), hK _ _ ?_⟩) | (refine ⟨_, _, Or.inl (np5.go _).weakQ, hK _ _ ?_⟩) | (refine ⟨_, _, Or.inl (np8.go _), (by first | exact ⟨[], (List.append_nil _).symm⟩ | exact ⟨_, rfl⟩), hK _ _ ?_⟩) | (refine ⟨_, _, Or.inl (np8.go _), hK _ _ ?_⟩) | (refine ⟨_, _, Or.inl (np8.go _).weakQ, hK _ _ ?_⟩) | (refine ⟨_, _, Or.inl (np11.go _), (by first | exact ⟨[], (List.append_nil _).symm⟩ | exact ⟨_, rfl⟩), hK _ _ ?_⟩) | (refine ⟨_, _, Or.inl (np11.go _), hK _ _ ?_⟩) | (refine ⟨_, _, Or.inl (np11.go _).weakQ, hK _ _ ?_⟩) | (refine ⟨_, _, Or.inl (np14.go _), (by first | exact ⟨[], (List.append_nil _).symm⟩ | exact ⟨_, rfl⟩), hK _ _ ?_⟩) | (refine ⟨_, _, Or.inl (np14.go _), hK _ _ ?_⟩) | (refine ⟨_, _, Or.inl (np14.go _).weakQ, hK _ _ ?_⟩) | (refine ⟨_, _, Or.inl (np17.go _), (by first | exact ⟨[], (List.append_nil _).symm⟩ | exact ⟨_, rfl⟩), hK _ _ ?_⟩) | (refine ⟨_, _, Or.inl (np17.go _), hK _ _ ?_⟩) | (refine ⟨_, _, Or.inl (np17.go _).weakQ, hK _ _ ?_⟩) | (refine ⟨_, _, Or.inl (gp.go _), (by first | exact ⟨[], (List.append_nil _).symm⟩ | exact ⟨_, rfl⟩), hK _ _ ?_⟩) | (refine ⟨_, _, Or.inl (gp.go _), hK _ _ ?_⟩) | (refine ⟨_, _, Or.inl (gp.go _).weakQ, hK _ _ ?_⟩) | (refine ⟨_, _, Or.inl (f1.go _), (by first | exact ⟨[], (List.append_nil _).symm⟩ | exact ⟨_, rfl⟩), hK _ _ ?_⟩) | (refine ⟨_, _, Or.inl (f1.go _), hK _ _ ?_⟩) | (refine ⟨_, _, Or.inl (f1.go _).weakQ, hK _ _ ?_⟩) | (refine ⟨_, _, Or.inl (f2.go _), (by first | exact ⟨[], (List.append_nil _).symm⟩ | exact ⟨_, rfl⟩), hK _ _ ?_⟩) | (refine ⟨_, _, Or.inl (f2.go _), hK _ _ ?_⟩) | (refine ⟨_, _, Or.inl (f2.go _).weakQ, hK _ _ ?_⟩) | (refine ⟨_, _, Or.inl (np1.go _), (by first | exact ⟨[], (List.append_nil _).symm⟩ | exact ⟨_, rfl⟩), hK _ _ ?_⟩) | (refine ⟨_, _, Or.inl (np1.go _), hK _ _ ?_⟩) | (refine ⟨_, _, Or.inl (np1.go _).weakQ, hK _ _ ?_⟩) | (refine ⟨_, _, Or.inl (np4.go _), (by first | exact ⟨[], (List.append_nil _).symm⟩ | exact ⟨_, rfl⟩), hK _ _ ?_⟩) | (refine ⟨_, _, Or.inl (np4.go _), hK _ _ ?_⟩) | (refine ⟨_, _, Or.inl (np4.go _).weakQ, hK _ _ ?_⟩) | (refine ⟨_, _, Or.inl (sp.go _), (by first | exact ⟨[], (List.append_nil _).symm⟩ | exact ⟨_, rfl⟩), hK _ _ ?_⟩) | (refine ⟨_, _, Or.inl (sp.go _), hK _ _ ?_⟩) | (refine ⟨_, _, Or.inl (sp.go _).weakQ, hK _ _ ?_⟩) | (refine ⟨_, _, Or.inl (tp.go _), (by first | exact ⟨[], (List.append_nil _).symm⟩ | exact ⟨_, rfl⟩), hK _ _ ?_⟩) | (refine ⟨_, _, Or.inl (tp.go _), hK _ _ ?_⟩) | (refine ⟨_, _, Or.inl (tp.go _).weakQ, hK _ _ ?_⟩)); clear hK K)
      | (with_reducible refine lops_nil ?_)
      | (with_reducible first | refine lavc_reg ?_ | refine lavc_seq ?_ | refine lavc_block ?_ | refine lavc_skip ?_ | refine lavc_exit ?_ | refine lavc_ret ?_ | refine lavcR_round ?_)
      | (refine lavc_cond rfl (fun _ => ?_) (fun hc => absurd hc (by decide)))
      | (refine lavc_cond rfl (fun hc => absurd hc (by decide)) (fun _ => ?_))
      | (simp only [↓reduceIte, Nat.reduceEqDiff, reduceCtorEq]))
    refine R1 tt ⟨?_⟩
    exact end0 (NR.t2 _ _) rfl
theorem Read_p (s : ByteArray) (hs : s.size ≤ 1000000) : PCall Tryz.prog glob 68 [.v (.string s)] (.tup [iv (readP s).1, iv (readP s).2]) := by
  by_cases h : Formed s
  · rcases h.2 with g | g
    · exact Read_z s h g.1
    · exact Read_25 s h g.1
  · have e : readP s = (0, 2) := by unfold readP; rw [if_pos h]
    rw [e]
    exact Read_bad s hs h
end Go.Abs.S
namespace Go.Abs.S
attribute [local go_sem] lguard aopO aop aenv toAV tput aLoad aStore vcells aBin aNilI aUn aAlloc aBox aBuild aBSlice afill aConv isIntT aappZ aCap aArr aMM aMake aSlice bnd3 bnd aFldAddr aFld aIdxAddr aIdx aExt aLen aCopy aEq0 bAV aUb aapp aappQ agh acont List.getD_cons_zero List.getD_cons_succ List.set_cons_zero List.set_cons_succ List.getElem?_cons_zero List.getElem?_cons_succ List.length_cons List.length_nil List.map_cons List.map_nil ints_length if_true if_false Bool.false_eq_true true_and and_true eq_self ne_eq not_false_eq_true not_true_eq_false beq_self_eq_true Nat.zero_add Nat.add_zero Nat.mul_one Nat.zero_mul Int.toNat_natCast List.toList_toArray List.all_cons List.all_nil AV.one Value.oneCell' Bool.and_true Bool.true_and forall_const true_implies false_implies implies_true Option.map_some Option.map_none Option.isSome_some Option.isSome_none imp_self rdP_flat rdP_row splice_one ints_set ints_get List.append_nil List.cons_append List.nil_append List.getElem?_toArray List.drop_zero ints_drop ints_take List.take_of_length_le splice_all ints_one Option.some.injEq Option.getD_some List.length_replicate zArr List.map_replicate rep_ints splice_intsR List.length_set List.length_append List.flatten_replicate_singleton rep_slice rep_string rep_bool rep_iface List.replicate_zero if_pos if_neg List.mapM_cons List.mapM_nil Option.pure_def Option.bind_eq_bind Option.bind_some Bool.true_eq_false Bool.not_false Bool.not_true get_concat set_concat
open Go.Proofs
set_option linter.unusedVariables false
set_option linter.unusedSimpArgs false
set_option maxRecDepth 100000
set_option maxHeartbeats 4000000
/-- A page, and what time it is. -/
abbrev claA (N V : AV) (now : Int) : AV := .agg [ivC 6, stA ⟨#[]⟩, N, V, ivC now]
theorem NR.claA {N V : AV} (hN : NR N) (hV : NR V) (now : Int) : NR (claA N V now) := NR.agg (by
  intro x hx
  simp only [List.mem_cons, List.not_mem_nil, or_false] at hx
  rcases hx with rfl | rfl | rfl | rfl | rfl
  · exact NR.v _
  · exact NR.v _
  · exact hN
  · exact hV
  · exact NR.v _)
theorem NR.t2c (a b : Value) : NR (.tup [.v a, .v b]) := NR.tup (by intro c hc; simp at hc; rcases hc with rfl | rfl <;> exact NR.v _)
/-- A row, or none. -/
def Rowy (a : AV) : Prop := a = nlA ∨ ∃ n c k, a = .vsl n c k
theorem text_p (N V : AV) (hN : NR N) (hV : NR V) (now : Int) (name : ByteArray) (k : Int) (s : ByteArray) (a b : AV) (ha : Rowy a) (hb : Rowy b) (t : Bool)
    (hg : PCall Tryz.prog glob 67 [.agg [ivC 6, stA ⟨#[]⟩, N, V], stA name] (.tup [.agg [ivC k, stA s, a, b], .v (.bool t)])) :
    PCall Tryz.prog glob 36 [claA N V now, stA name] (.tup [stA s, .v (.bool (t && decide (k = 4)))]) := by
  refine PCall.of ctx.nr (List.forall_mem_cons.2 ⟨NR.claA hN hV _, List.forall_mem_cons.2 ⟨NR.v _, fun _ h => absurd h List.not_mem_nil⟩⟩) (NR.t2c _ _) ?_
  refine lcall36 (by simp) 0 (Nat.le_refl _) ?_
  unfold lc36
  refine I1 tt ⟨?_⟩
  unfold claA
  obtain ⟨w, hw⟩ : ∃ w, decide (k = 4) = w := ⟨_, rfl⟩
  have q : (k == 4) = w := by rw [← hw]; rfl
  have e5 : List.take 4 [ivC 6, stA ⟨#[]⟩, N, V, ivC now] = [ivC 6, stA ⟨#[]⟩, N, V] := rfl
  rw [hw]
  rcases ha with rfl | ⟨n1, c1, k1, rfl⟩ <;> rcases hb with rfl | ⟨n2, c2, k2, rfl⟩ <;> cases t
  all_goals
    refine G1 F4 (an q (an e5 tt)) (an hg.go tt) tt tt ⟨?_⟩
    refine R1 tt ⟨?_⟩
    exact end0 (NR.t2c _ _) rfl
/-- A rule: what it asks, of which name, what is wanted. -/
abbrev ruleA (r : Int × ByteArray × ByteArray) : List AV := [ivC r.1, stA r.2.1, stA r.2.2]
/-- What a text is wrong by. -/
def wrongP (ask : Int) (want s : ByteArray) (now : Int) : Int :=
  if ask = 1 then (if s = want then 0 else 15)
  else if ask = 2 then 0
  else if (readP s).2 ≠ 0 then 12
  else if ask = 3 ∧ now < (readP s).1 then 13
  else if ask = 4 ∧ (readP s).1 ≤ now then 14
  else 0
theorem wrong_p (ask : Int) (name want s : ByteArray) (now : Int) (hs : ask ≠ 1 → ask ≠ 2 → s.size ≤ 1000000) : PCall Tryz.prog glob 37 [.agg [ivC ask, stA name, stA want], stA s, ivC now] (ivC (wrongP ask want s now)) := by
  refine PCall.of ctx.nr (List.forall_mem_cons.2 ⟨NR.agg (by intro c hc; simp at hc; rcases hc with rfl | rfl | rfl <;> exact NR.v _), List.forall_mem_cons.2 ⟨NR.v _, List.forall_mem_cons.2 ⟨NR.v _, fun _ h => absurd h List.not_mem_nil⟩⟩⟩) (NR.v _) ?_
  refine lcall37 (by simp) 0 (Nat.le_refl _) ?_
  unfold lc37
  refine I1 tt ⟨?_⟩
  unfold wrongP
  by_cases h1 : ask = 1
  · subst h1
    rw [if_pos rfl]
    by_cases hx : s = want
    · rw [if_pos hx]
      have q : (s.toList == want.toList) = true := by rw [stA_beq]; exact decide_eq_true hx
      refine G1 F4 (an q tt) tt tt tt ⟨?_⟩
      refine R1 tt ⟨?_⟩
      exact end0 (NR.v _) rfl
    · rw [if_neg hx]
      have q : (s.toList == want.toList) = false := by rw [stA_beq]; exact decide_eq_false hx
      refine G1 F4 (an q tt) tt tt tt ⟨?_⟩
      refine R1 tt ⟨?_⟩
      exact end0 (NR.v _) rfl
  rw [if_neg h1]
  have q1 : ((ask : Int) == 1) = false := by rw [beq_eq_false_iff_ne, ne_eq]; omega
  by_cases h2 : ask = 2
  · subst h2
    rw [if_pos rfl]
    refine G1 F4 tt tt tt tt ⟨?_⟩
    refine R1 tt ⟨?_⟩
    exact end0 (NR.v _) rfl
  rw [if_neg h2]
  have q2 : ((ask : Int) == 2) = false := by rw [beq_eq_false_iff_ne, ne_eq]; omega
  have rp := Read_p s (hs h1 h2)
  obtain ⟨⟨n, e⟩, hr⟩ : ∃ x, readP s = x := ⟨_, rfl⟩
  rw [hr] at rp ⊢
  by_cases he : e = 0
  · subst he
    simp only [ne_eq, not_true_eq_false, if_false]
    by_cases h3 : ask = 3
    · subst h3
      by_cases hn : now < n
      · rw [if_pos ⟨rfl, hn⟩]
        have d : decide (n > now) = true := by rw [decide_eq_true_eq]; omega
        refine G1 F4 (an d tt) (an rp.go tt) tt tt ⟨?_⟩
        refine R1 tt ⟨?_⟩
        exact end0 (NR.v _) rfl
      · rw [if_neg (fun h => hn h.2), if_neg (fun h => absurd h.1 (by decide))]
        have d : decide (n > now) = false := by rw [decide_eq_false_iff_not]; omega
        refine G1 F4 (an d tt) (an rp.go tt) tt tt ⟨?_⟩
        refine R1 tt ⟨?_⟩
        exact end0 (NR.v _) rfl
    have q3 : ((ask : Int) == 3) = false := by rw [beq_eq_false_iff_ne, ne_eq]; omega
    rw [if_neg (fun h => h3 h.1)]
    by_cases h4 : ask = 4
    · subst h4
      by_cases hn : n ≤ now
      · rw [if_pos ⟨rfl, hn⟩]
        have d : decide (n ≤ now) = true := by rw [decide_eq_true_eq]; omega
        refine G1 F4 (an d tt) (an rp.go tt) tt tt ⟨?_⟩
        refine R1 tt ⟨?_⟩
        exact end0 (NR.v _) rfl
      · rw [if_neg (fun h => hn h.2)]
        have d : decide (n ≤ now) = false := by rw [decide_eq_false_iff_not]; omega
        refine G1 F4 (an d tt) (an rp.go tt) tt tt ⟨?_⟩
        refine R1 tt ⟨?_⟩
        exact end0 (NR.v _) rfl
    · rw [if_neg (fun h => h4 h.1)]
      have q4 : ((ask : Int) == 4) = false := by rw [beq_eq_false_iff_ne, ne_eq]; omega
      refine G1 F4 (an q1 (an q2 (an q3 (an q4 tt)))) (an rp.go tt) tt tt ⟨?_⟩
      refine R1 tt ⟨?_⟩
      exact end0 (NR.v _) rfl
  · rw [if_pos he]
    have d : ((e : Int) != 0) = true := by rw [bne_iff_ne, ne_eq]; omega
    refine G1 F4 (an q1 (an q2 (an d tt))) (an rp.go tt) tt tt ⟨?_⟩
    refine R1 tt ⟨?_⟩
    exact end0 (NR.v _) rfl
/-- A rule's error, of a name's text. -/
def checkP (tx : ByteArray → ByteArray × Bool) (now : Int) (r : Int × ByteArray × ByteArray) : Int :=
  if r.1 < 1 ∨ 4 < r.1 then 2 else if (tx r.2.1).2 = true then wrongP r.1 r.2.2 (tx r.2.1).1 now else 15
theorem check_p (N V : AV) (hN : NR N) (hV : NR V) (now : Int) (tx : ByteArray → ByteArray × Bool) 
    (hx : ∀ name, PCall Tryz.prog glob 36 [claA N V now, stA name] (.tup [stA (tx name).1, .v (.bool (tx name).2)])) (r : Int × ByteArray × ByteArray) (ht : r.1 ≠ 1 → r.1 ≠ 2 → (tx r.2.1).1.size ≤ 1000000) :
    PCall Tryz.prog glob 20 [claA N V now, .agg (ruleA r)] (ivC (checkP tx now r)) := by
  obtain ⟨ask, name, want⟩ := r
  refine PCall.of ctx.nr (List.forall_mem_cons.2 ⟨NR.claA hN hV _, List.forall_mem_cons.2 ⟨NR.agg (by intro c hc; simp at hc; rcases hc with rfl | rfl | rfl <;> exact NR.v _), fun _ h => absurd h List.not_mem_nil⟩⟩) (NR.v _) ?_
  refine lcall20 (by simp) 0 (Nat.le_refl _) ?_
  unfold lc20
  refine I1 tt ⟨?_⟩
  have hx := hx name
  have hz : ask ≠ 1 → ask ≠ 2 → (tx name).1.size ≤ 1000000 := ht
  unfold claA ruleA checkP
  unfold claA at hx
  obtain ⟨⟨s, t⟩, hs⟩ : ∃ x, tx name = x := ⟨_, rfl⟩
  simp only [hs] at hx hz ⊢
  have wp := wrong_p ask name want s now hz
  obtain ⟨w, hw⟩ : ∃ w, wrongP ask want s now = w := ⟨_, rfl⟩
  rw [hw] at wp ⊢
  by_cases h1 : ask < 1
  · rw [if_pos (.inl h1)]
    have d : decide (ask < 1) = true := by rw [decide_eq_true_eq]; omega
    refine G1 F4 (an d tt) tt tt tt ⟨?_⟩
    refine R1 tt ⟨?_⟩
    exact end0 (NR.v _) rfl
  have d : decide (ask < 1) = false := by rw [decide_eq_false_iff_not]; omega
  by_cases h4 : 4 < ask
  · rw [if_pos (.inr h4)]
    have d4 : decide (ask > 4) = true := by rw [decide_eq_true_eq]; omega
    refine G1 F4 (an d (an d4 tt)) tt tt tt ⟨?_⟩
    refine R1 tt ⟨?_⟩
    exact end0 (NR.v _) rfl
  have d4 : decide (ask > 4) = false := by rw [decide_eq_false_iff_not]; omega
  rw [if_neg (by omega)]
  cases t with
  | true =>
    rw [if_pos rfl]
    refine G1 F4 (an d (an d4 tt)) (an hx.go (an wp.go tt)) tt tt ⟨?_⟩
    refine R1 tt ⟨?_⟩
    exact end0 (NR.v _) rfl
  | false =>
    rw [if_neg (by decide)]
    refine G1 F4 (an d (an d4 tt)) (an hx.go tt) tt tt ⟨?_⟩
    refine R1 tt ⟨?_⟩
    exact end0 (NR.v _) rfl
end Go.Abs.S
namespace Go.Abs.S
attribute [local go_sem] lguard aopO aop aenv toAV tput aLoad aStore vcells aBin aNilI aUn aAlloc aBox aBuild aBSlice afill aConv isIntT aappZ aCap aArr aMM aMake aSlice bnd3 bnd aFldAddr aFld aIdxAddr aIdx aExt aLen aCopy aEq0 bAV aUb aapp aappQ agh acont List.getD_cons_zero List.getD_cons_succ List.set_cons_zero List.set_cons_succ List.getElem?_cons_zero List.getElem?_cons_succ List.length_cons List.length_nil List.map_cons List.map_nil ints_length if_true if_false Bool.false_eq_true true_and and_true eq_self ne_eq not_false_eq_true not_true_eq_false beq_self_eq_true Nat.zero_add Nat.add_zero Nat.mul_one Nat.zero_mul Int.toNat_natCast List.toList_toArray List.all_cons List.all_nil AV.one Value.oneCell' Bool.and_true Bool.true_and forall_const true_implies false_implies implies_true Option.map_some Option.map_none Option.isSome_some Option.isSome_none imp_self rdP_flat rdP_row splice_one ints_set ints_get List.append_nil List.cons_append List.nil_append List.getElem?_toArray List.drop_zero ints_drop ints_take List.take_of_length_le splice_all ints_one Option.some.injEq Option.getD_some List.length_replicate zArr List.map_replicate rep_ints splice_intsR List.length_set List.length_append List.flatten_replicate_singleton rep_slice rep_string rep_bool rep_iface List.replicate_zero if_pos if_neg List.mapM_cons List.mapM_nil Option.pure_def Option.bind_eq_bind Option.bind_some Bool.true_eq_false Bool.not_false Bool.not_true get_concat set_concat
open Go.Proofs
set_option linter.unusedVariables false
set_option linter.unusedSimpArgs false
set_option maxRecDepth 100000
set_option maxHeartbeats 4000000
abbrev Rule3 : Type := Int × ByteArray × ByteArray
def rulesA (l : List Rule3) : List AV := l.flatMap ruleA
theorem rulesA_length (l : List Rule3) : (rulesA l).length = l.length * 3 := by
  induction l with
  | nil => rfl
  | cons a l ih =>
    have : rulesA (a :: l) = ruleA a ++ rulesA l := rfl
    rw [this, List.length_append, ih]
    simp [ruleA]
    omega
theorem rulesA_at (l : List Rule3) (k : Nat) (h : k < l.length) : ((rulesA l).drop (k * 3)).take 3 = ruleA (l.getD k (0, ⟨#[]⟩, ⟨#[]⟩)) := by
  induction l generalizing k with
  | nil => exact absurd h (Nat.not_lt_zero _)
  | cons a l ih =>
    have e : rulesA (a :: l) = ruleA a ++ rulesA l := rfl
    rw [e]
    cases k with
    | zero => simp [ruleA]
    | succ k =>
      rw [show (k + 1) * 3 = k * 3 + 1 + 1 + 1 from by omega]
      have := ih k (by simpa using h)
      simp only [ruleA, List.cons_append, List.nil_append, List.drop_succ_cons] at this ⊢
      simpa using this
theorem NR.rulesA (l : List Rule3) : ∀ x ∈ rulesA l, NR x := by
  intro x hx
  simp only [Go.Abs.S.rulesA, List.mem_flatMap] at hx
  obtain ⟨r, _, hr⟩ := hx
  simp only [List.mem_cons, List.not_mem_nil, or_false] at hr
  rcases hr with rfl | rfl | rfl <;> exact NR.v _
/-- The first rule's error. -/
def chkAll (tx : ByteArray → ByteArray × Bool) (now : Int) : List Rule3 → Int
  | [] => 0
  | r :: l => if checkP tx now r = 0 then chkAll tx now l else checkP tx now r
theorem chkAll_step (tx : ByteArray → ByteArray × Bool) (now : Int) (l : List Rule3) (k : Nat) (h : k < l.length) : chkAll tx now (l.drop k) = if checkP tx now (l.getD k (0, ⟨#[]⟩, ⟨#[]⟩)) = 0 then chkAll tx now (l.drop (k + 1)) else checkP tx now (l.getD k (0, ⟨#[]⟩, ⟨#[]⟩)) := by
  rw [List.drop_eq_getElem_cons h, chkAll, List.getD_eq_getElem?_getD, List.getElem?_eq_getElem h]
  rfl
theorem NR.val4 (k : Int) (t : ByteArray) {N V : AV} (hN : NR N) (hV : NR V) : NR (.agg [ivC k, stA t, N, V]) := NR.agg (by
  intro x hx
  simp only [List.mem_cons, List.not_mem_nil, or_false] at hx
  rcases hx with rfl | rfl | rfl | rfl
  · exact NR.v _
  · exact NR.v _
  · exact hN
  · exact hV)
theorem Check_bad (k : Int) (t : ByteArray) (n1 : Nat) (c1 : List AV) (hc1 : ∀ x ∈ c1, NR x) (n2 : Nat) (c2 : List AV) (hc2 : ∀ x ∈ c2, NR x) (now : Int) (g : Int)
    (hg : PCall Tryz.prog glob 19 [.agg [ivC k, stA t, .vsl n1 c1 none, .vsl n2 c2 none]] (ivC g))
    (hb : k ≠ 6 ∨ g ≠ 0) (l : List Rule3) (c : Option Nat) :
    PCall Tryz.prog glob 8 [.agg [ivC k, stA t, .vsl n1 c1 none, .vsl n2 c2 none], ivC now, .vsl l.length (rulesA l) c] (ivC 2) := by
  refine PCall.of ctx.nr (List.forall_mem_cons.2 ⟨NR.val4 _ _ (NR.vsl hc1) (NR.vsl hc2), List.forall_mem_cons.2 ⟨NR.v _, List.forall_mem_cons.2 ⟨NR.vsl (NR.rulesA _), fun _ h => absurd h List.not_mem_nil⟩⟩⟩) (NR.v _) ?_
  refine lcall8 (by simp) 0 (Nat.le_refl _) ?_
  unfold lc8
  refine I1 tt ⟨?_⟩
  by_cases h6 : k = 6
  · subst h6
    have h0 : g ≠ 0 := hb.resolve_left (fun h => h rfl)
    have d : ((g : Int) != 0) = true := by rw [bne_iff_ne, ne_eq]; omega
    repeat (first
      | (with_reducible refine lops_step fun K hK => ?_; simp (disch := first | exact dch | fail) only [go_sem, Nat.reduceAdd, Nat.reduceSub, reduceIte, Nat.reduceEqDiff, Int.reduceToNat, Int.reduceBEq, Int.reduceBNe, d, splice, List.take_succ_cons, List.take_zero, List.drop_succ_cons, List.drop_zero, List.drop_nil, List.cons_append, List.nil_append, List.append_nil, List.length_cons, List.length_nil, List.replicate_succ, List.replicate_zero, List.flatten_cons, List.flatten_nil, Nat.reduceMul, Nat.reduceAdd, Nat.reduceLeDiff]; (try (first | (refine And.intro (fun _ => ?_) (fun h => absurd h (by decide))) | (refine And.intro (fun h => absurd h (by decide)) (fun _ => ?_)))); (repeat (with_reducible refine And.intro acl ?_)); (first | (refine hK _ _ ?_) | (refine ⟨_, rfl, hK _ _ ?_⟩) | (refine Or.inl (hK _ _ ?_)) | (refine ⟨_, _, Or.inl (hg.go _), (by first | exact ⟨[], (List.append_nil _).symm⟩ | exact ⟨_, rfl⟩), hK _ _ ?_⟩) | (refine ⟨_, _, Or.inl (hg.go _), hK _ _ ?_⟩) | (refine ⟨_, _, Or.inl (hg.go _).weakQ, hK _ _ ?_⟩)); clear hK K)
      | (with_reducible refine lops_nil ?_)
      | (with_reducible first | refine lavc_reg ?_ | refine lavc_seq ?_ | refine lavc_block ?_ | refine lavc_skip ?_ | refine lavc_exit ?_ | refine lavc_ret ?_ | refine lavcR_round ?_)
      | (refine lavc_cond rfl (fun _ => ?_) (fun hc => absurd hc (by decide)))
      | (refine lavc_cond rfl (fun hc => absurd hc (by decide)) (fun _ => ?_))
      | (simp only [↓reduceIte, Nat.reduceEqDiff, reduceCtorEq]))
    refine R1 tt ⟨?_⟩
    exact end0 (NR.v _) rfl
  · have d : ((k : Int) != 6) = true := by rw [bne_iff_ne, ne_eq]; omega
    repeat (first
      | (with_reducible refine lops_step fun K hK => ?_; simp (disch := first | exact dch | fail) only [go_sem, Nat.reduceAdd, Nat.reduceSub, reduceIte, Nat.reduceEqDiff, Int.reduceToNat, Int.reduceBEq, Int.reduceBNe, d, splice, List.take_succ_cons, List.take_zero, List.drop_succ_cons, List.drop_zero, List.drop_nil, List.cons_append, List.nil_append, List.append_nil, List.length_cons, List.length_nil, List.replicate_succ, List.replicate_zero, List.flatten_cons, List.flatten_nil, Nat.reduceMul, Nat.reduceAdd, Nat.reduceLeDiff]; (try (first | (refine And.intro (fun _ => ?_) (fun h => absurd h (by decide))) | (refine And.intro (fun h => absurd h (by decide)) (fun _ => ?_)))); (repeat (with_reducible refine And.intro acl ?_)); (first | (refine hK _ _ ?_) | (refine ⟨_, rfl, hK _ _ ?_⟩) | (refine Or.inl (hK _ _ ?_))); clear hK K)
      | (with_reducible refine lops_nil ?_)
      | (with_reducible first | refine lavc_reg ?_ | refine lavc_seq ?_ | refine lavc_block ?_ | refine lavc_skip ?_ | refine lavc_exit ?_ | refine lavc_ret ?_ | refine lavcR_round ?_)
      | (refine lavc_cond rfl (fun _ => ?_) (fun hc => absurd hc (by decide)))
      | (refine lavc_cond rfl (fun hc => absurd hc (by decide)) (fun _ => ?_))
      | (simp only [↓reduceIte, Nat.reduceEqDiff, reduceCtorEq]))
    refine R1 tt ⟨?_⟩
    exact end0 (NR.v _) rfl
theorem Check_p (n1 : Nat) (c1 : List AV) (hc1 : ∀ x ∈ c1, NR x) (n2 : Nat) (c2 : List AV) (hc2 : ∀ x ∈ c2, NR x) (now : Int)
    (hg : PCall Tryz.prog glob 19 [.agg [ivC 6, stA ⟨#[]⟩, .vsl n1 c1 none, .vsl n2 c2 none]] (ivC 0))
    (tx : ByteArray → ByteArray × Bool)
    (hx : ∀ name, PCall Tryz.prog glob 36 [claA (.vsl n1 c1 none) (.vsl n2 c2 none) now, stA name] (.tup [stA (tx name).1, .v (.bool (tx name).2)]))
    (l : List Rule3) (hl : l.length ≤ 1000) (hr : ∀ r ∈ l, r.1 ≠ 1 → r.1 ≠ 2 → (tx r.2.1).1.size ≤ 1000000) (c : Option Nat) :
    PCall Tryz.prog glob 8 [.agg [ivC 6, stA ⟨#[]⟩, .vsl n1 c1 none, .vsl n2 c2 none], ivC now, .vsl l.length (rulesA l) c] (ivC (chkAll tx now l)) := by
  refine PCall.of ctx.nr (List.forall_mem_cons.2 ⟨NR.val4 _ _ (NR.vsl hc1) (NR.vsl hc2), List.forall_mem_cons.2 ⟨NR.v _, List.forall_mem_cons.2 ⟨NR.vsl (NR.rulesA _), fun _ h => absurd h List.not_mem_nil⟩⟩⟩) (NR.v _) ?_
  refine lcall8 (by simp) 0 (Nat.le_refl _) ?_
  unfold lc8
  refine I1 tt ⟨?_⟩
  have hlx := rulesA_length l
  have cp := fun r => check_p (.vsl n1 c1 none) (.vsl n2 c2 none) (NR.vsl hc1) (NR.vsl hc2) now tx hx r
  unfold claA ruleA at cp
  obtain ⟨V, hV⟩ : ∃ V, chkAll tx now l = V := ⟨_, rfl⟩
  rw [hV]
  repeat (first
    | (with_reducible refine lops_step fun K hK => ?_; simp (disch := first | exact dch | fail) only [go_sem, Nat.reduceAdd, Nat.reduceSub, reduceIte, Nat.reduceEqDiff, Int.reduceToNat, Int.reduceBEq, Int.reduceBNe, splice, List.take_succ_cons, List.take_zero, List.drop_succ_cons, List.drop_zero, List.drop_nil, List.cons_append, List.nil_append, List.append_nil, List.length_cons, List.length_nil, List.replicate_succ, List.replicate_zero, List.flatten_cons, List.flatten_nil, Nat.reduceMul, Nat.reduceAdd, Nat.reduceLeDiff]; (try (first | (refine And.intro (fun _ => ?_) (fun h => absurd h (by decide))) | (refine And.intro (fun h => absurd h (by decide)) (fun _ => ?_)))); (repeat (with_reducible refine And.intro acl ?_)); (first | (refine hK _ _ ?_) | (refine ⟨_, rfl, hK _ _ ?_⟩) | (refine Or.inl (hK _ _ ?_)) | (refine ⟨_, _, Or.inl (hg.go _), (by first | exact ⟨[], (List.append_nil _).symm⟩ | exact ⟨_, rfl⟩), hK _ _ ?_⟩) | (refine ⟨_, _, Or.inl (hg.go _), hK _ _ ?_⟩) | (refine ⟨_, _, Or.inl (hg.go _).weakQ, hK _ _ ?_⟩)); clear hK K)
    | (with_reducible refine lops_nil ?_)
    | (with_reducible first | refine lavc_reg ?_ | refine lavc_seq ?_ | refine lavc_block ?_ | refine lavc_skip ?_ | refine lavc_exit ?_ | refine lavc_ret ?_ | refine lavcR_round ?_)
    | (refine lavc_cond rfl (fun _ => ?_) (fun hc => absurd hc (by decide)))
    | (refine lavc_cond rfl (fun hc => absurd hc (by decide)) (fun _ => ?_))
    | (simp only [↓reduceIte, Nat.reduceEqDiff, reduceCtorEq]))
  refine lavc_loopM ms8_0 (fun m (x : Nat × AHeap) => m + x.1 = l.length ∧ chkAll tx now (l.drop x.1) = V) (fun x => [(25, ivC x.1)]) (fun x => [Blk.mk [ivC 6, stA ⟨#[]⟩, .vsl n1 c1 none, .vsl n2 c2 none] 0 true 29, Blk.mk [ivC 6, stA ⟨#[]⟩, .vsl n1 c1 none, .vsl n2 c2 none, ivC now] 0 true 56] ++ x.2) l.length (0, []) ⟨by omega, by rw [List.drop_zero]; exact hV⟩ ?_ ?_ ?_
  · try unfold ms8_0
    refine A1 tt ⟨?_⟩
    rfl
  · rfl
  rintro m ⟨k, gg⟩ ⟨hk, hi⟩
  simp only at hk hi ⊢
  try unfold ms8_0
  refine M1 tt ⟨?_⟩
  refine G1 F1 tt tt tt tt ⟨?_⟩
  refine cnd rfl (fun hc => ?_) (fun hc => ?_)
  · have hkl : k < l.length := by omega
    have hat := rulesA_at l k hkl
    rw [chkAll_step tx now l k hkl] at hi
    obtain ⟨⟨ask, name, want⟩, hy⟩ : ∃ y, l.getD k (0, ⟨#[]⟩, ⟨#[]⟩) = y := ⟨_, rfl⟩
    rw [hy] at hat hi
    unfold ruleA at hat
    have hyl : (ask, name, want) ∈ l := by
      rw [← hy, List.getD_eq_getElem?_getD, List.getElem?_eq_getElem hkl]
      exact List.getElem_mem hkl
    have cp := cp (ask, name, want) (hr _ hyl)
    have e3 := i64n ((k : Int) + 1) (k + 1) (by omega) (by omega)
    obtain ⟨w, hw⟩ : ∃ w, checkP tx now (ask, name, want) = w := ⟨_, rfl⟩
    rw [hw] at cp hi
    by_cases h0 : w = 0
    · subst h0
      rw [if_pos rfl] at hi
      refine G1 F4 (an hat (an hlx (an e3 tt))) (an cp.go tt) tt tt ⟨?_⟩
      refine ⟨m - 1, (k + 1, gg ++ [⟨[ivC ask, stA name, stA want], 0, true, 45⟩]), by omega, ⟨by show m - 1 + (k + 1) = l.length; omega, hi⟩, ?_, (by first | rfl | trivial)⟩
      try unfold ms8_0
      exact A0 tt
    · rw [if_neg h0] at hi
      have d : ((w : Int) != 0) = true := by rw [bne_iff_ne, ne_eq]; omega
      refine G1 F4 (an hat (an hlx (an d (an e3 tt)))) (an cp.go tt) tt tt ⟨?_⟩
      refine R1 tt ⟨?_⟩
      exact end0 (NR.v _) (by rw [← hi])
  · have hk2 : k = l.length := by omega
    rw [hk2, List.drop_length] at hi
    refine G1 F4 tt tt tt tt ⟨?_⟩
    refine R1 tt ⟨?_⟩
    exact end0 (NR.v _) (by rw [← hi]; rfl)
abbrev issB : ByteArray := ⟨#[105, 115, 115]⟩
abbrev audB : ByteArray := ⟨#[97, 117, 100]⟩
abbrev nbfB : ByteArray := ⟨#[110, 98, 102]⟩
abbrev expB : ByteArray := ⟨#[101, 120, 112]⟩
def usualP (i a : ByteArray) : List Rule3 := [(1, issB, i), (1, audB, a), (3, nbfB, ⟨#[]⟩), (4, expB, ⟨#[]⟩)]
theorem Usual_p (i a : ByteArray) : PCall Tryz.prog glob 15 [stA i, stA a] (.vsl 4 (rulesA (usualP i a)) (some 4)) := by
  refine PCall.of ctx.nr (List.forall_mem_cons.2 ⟨NR.v _, List.forall_mem_cons.2 ⟨NR.v _, fun _ h => absurd h List.not_mem_nil⟩⟩) (NR.vsl (NR.rulesA _)) ?_
  refine lcall15 (by simp) 0 (Nat.le_refl _) ?_
  have hnr := NR.rulesA (usualP i a)
  unfold rulesA usualP ruleA at hnr ⊢
  simp only [List.flatMap_cons, List.flatMap_nil, List.cons_append, List.nil_append] at hnr ⊢
  unfold lc15
  refine I1 tt ⟨?_⟩
  repeat (first
    | (with_reducible refine lops_step fun K hK => ?_; simp (disch := first | exact dch | fail) only [go_sem, Nat.reduceAdd, Nat.reduceSub, reduceIte, Nat.reduceEqDiff, Int.reduceToNat, Int.reduceBEq, Int.reduceBNe, splice, List.take_succ_cons, List.take_zero, List.drop_succ_cons, List.drop_zero, List.drop_nil, List.cons_append, List.nil_append, List.append_nil, List.length_cons, List.length_nil, List.replicate_succ, List.replicate_zero, List.flatten_cons, List.flatten_nil, Nat.reduceMul, Nat.reduceAdd, Nat.reduceLeDiff]; (try (first | (refine And.intro (fun _ => ?_) (fun h => absurd h (by decide))) | (refine And.intro (fun h => absurd h (by decide)) (fun _ => ?_)))); (repeat (with_reducible refine And.intro acl ?_)); (first | (refine hK _ _ ?_) | (refine ⟨_, rfl, hK _ _ ?_⟩) | (refine Or.inl (hK _ _ ?_))); clear hK K)
    | (with_reducible refine lops_nil ?_)
    | (with_reducible first | refine lavc_reg ?_ | refine lavc_seq ?_ | refine lavc_block ?_ | refine lavc_skip ?_ | refine lavc_exit ?_ | refine lavc_ret ?_ | refine lavcR_round ?_)
    | (refine lavc_cond rfl (fun _ => ?_) (fun hc => absurd hc (by decide)))
    | (refine lavc_cond rfl (fun hc => absurd hc (by decide)) (fun _ => ?_))
    | (simp only [↓reduceIte, Nat.reduceEqDiff, reduceCtorEq]))
  refine R1 tt ⟨?_⟩
  exact end0 (NR.vsl hnr) rfl
end Go.Abs.S
namespace Go.Abs.S
attribute [local go_sem] lguard aopO aop aenv toAV tput aLoad aStore vcells aBin aNilI aUn aAlloc aBox aBuild aBSlice afill aConv isIntT aappZ aCap aArr aMM aMake aSlice bnd3 bnd aFldAddr aFld aIdxAddr aIdx aExt aLen aCopy aEq0 bAV aUb aapp aappQ agh acont List.getD_cons_zero List.getD_cons_succ List.set_cons_zero List.set_cons_succ List.getElem?_cons_zero List.getElem?_cons_succ List.length_cons List.length_nil List.map_cons List.map_nil ints_length if_true if_false Bool.false_eq_true true_and and_true eq_self ne_eq not_false_eq_true not_true_eq_false beq_self_eq_true Nat.zero_add Nat.add_zero Nat.mul_one Nat.zero_mul Int.toNat_natCast List.toList_toArray List.all_cons List.all_nil AV.one Value.oneCell' Bool.and_true Bool.true_and forall_const true_implies false_implies implies_true Option.map_some Option.map_none Option.isSome_some Option.isSome_none imp_self rdP_flat rdP_row splice_one ints_set ints_get List.append_nil List.cons_append List.nil_append List.getElem?_toArray List.drop_zero ints_drop ints_take List.take_of_length_le splice_all ints_one Option.some.injEq Option.getD_some List.length_replicate zArr List.map_replicate rep_ints splice_intsR List.length_set List.length_append List.flatten_replicate_singleton rep_slice rep_string rep_bool rep_iface List.replicate_zero if_pos if_neg List.mapM_cons List.mapM_nil Option.pure_def Option.bind_eq_bind Option.bind_some Bool.true_eq_false Bool.not_false Bool.not_true get_concat set_concat
open Go.Proofs
set_option linter.unusedVariables false
set_option linter.unusedSimpArgs false
set_option maxRecDepth 100000
theorem strs_append (a b : List ByteArray) : strs a ++ strs b = strs (a ++ b) := by simp [strs]
theorem strs_one (a : List ByteArray) : (strs a).all AV.one = true := by
  rw [List.all_eq_true]
  intro x hx
  simp only [strs, List.mem_map] at hx
  obtain ⟨y, _, rfl⟩ := hx
  rfl
theorem strs_take (a : List ByteArray) (k : Nat) : (strs a).take k = strs (a.take k) := by simp [strs, List.map_take]
theorem growS (n : Nat) (h0 : 0 < n) (h1 : n ≤ 1000000) : NCall Tryz.prog glob 52 [.v (.slice none 0 0), .v (.int .i64 n)] 9 0 n 1 false (strs (List.replicate n ⟨#[]⟩)) := by
  refine NCall.of (v := 0) ctx.nr nrs (NR.strs _) ?_
  refine lcall52 (by simp) 1 (Nat.zero_le _) ?_
  unfold lc52
  refine I1 tt ⟨?_⟩
  have e2 := i64z (0 : Int) (by omega)
  have e3 := i64z (n : Int) (by omega)
  have e4 : (List.replicate n [stA ⟨#[]⟩]).flatten = strs (List.replicate n ⟨#[]⟩) := by simp [strs]
  repeat (first
    | (with_reducible refine lops_step fun K hK => ?_; simp (disch := first | exact dch | fail) only [go_sem, Nat.reduceAdd, Nat.reduceSub, reduceIte, Nat.reduceEqDiff, Int.reduceToNat, Int.reduceBEq, Int.reduceBNe, Int.sub_self, Int.sub_zero, e2, e3]; (repeat (with_reducible refine And.intro acl ?_)); (first | (refine hK _ _ ?_) | (refine ⟨_, rfl, hK _ _ ?_⟩) | (refine Or.inl (hK _ _ ?_))); clear hK K)
    | (with_reducible refine lops_nil ?_)
    | (with_reducible first | refine lavc_reg ?_ | refine lavc_seq ?_ | refine lavc_block ?_ | refine lavc_skip ?_ | refine lavc_exit ?_ | refine lavc_ret ?_ | refine lavcR_round ?_)
    | (simp only [↓reduceIte, Nat.reduceEqDiff, reduceCtorEq]))
  refine cnd rfl (fun hc => ?_) (fun hc => ?_)
  · exact absurd hc (by omega)
  · repeat (first
      | (with_reducible refine lops_step fun K hK => ?_; simp (disch := first | exact dch | fail) only [go_sem, Nat.reduceAdd, Nat.reduceSub, reduceIte, Nat.reduceEqDiff, Int.reduceToNat, Int.reduceBEq, Int.reduceBNe, Int.sub_self, Int.sub_zero, e2, e3]; (repeat (with_reducible refine And.intro acl ?_)); (first | (refine hK _ _ ?_) | (refine ⟨_, rfl, hK _ _ ?_⟩) | (refine Or.inl (hK _ _ ?_))); clear hK K)
      | (with_reducible refine lops_nil ?_)
      | (with_reducible first | refine lavc_reg ?_ | refine lavc_seq ?_ | refine lavc_block ?_ | refine lavc_skip ?_ | refine lavc_exit ?_ | refine lavc_ret ?_ | refine lavcR_round ?_)
      | (simp only [↓reduceIte, Nat.reduceEqDiff, reduceCtorEq]))
    refine cnd rfl (fun hc => ?_) (fun hc => ?_)
    · repeat (first
        | (with_reducible refine lops_step fun K hK => ?_; simp (disch := first | exact dch | fail) only [go_sem, Nat.reduceAdd, Nat.reduceSub, reduceIte, Nat.reduceEqDiff, Int.reduceToNat, Int.reduceBEq, Int.reduceBNe, e4, Value.cells, List.map_cons, List.map_nil, Int.ofNat_le]; (repeat (with_reducible refine And.intro acl ?_)); (first | (refine hK _ _ ?_) | (refine ⟨_, rfl, hK _ _ ?_⟩) | (refine Or.inl (hK _ _ ?_))); clear hK K)
        | (with_reducible refine lops_nil ?_)
        | (with_reducible first | refine lavc_reg ?_ | refine lavc_seq ?_ | refine lavc_block ?_ | refine lavc_skip ?_ | refine lavc_exit ?_ | refine lavc_ret ?_ | refine lavcR_round ?_)
        | (simp only [↓reduceIte, Nat.reduceEqDiff, reduceCtorEq]))
      refine R1 tt ⟨?_⟩
      exact endN (NR.strs _) rfl
    · exact absurd hc (by omega)
/-- The first k rows, one behind the other. -/
def catS (rs : List (List ByteArray)) (k : Nat) : List ByteArray := (rs.take k).flatten
theorem catS_step (rs : List (List ByteArray)) (k : Nat) (h : k < rs.length) : catS rs (k + 1) = catS rs k ++ rs.getD k [] := by
  unfold catS
  rw [List.take_succ_eq_append_getElem h, List.flatten_append, List.getD_eq_getElem?_getD, List.getElem?_eq_getElem h]
  simp
theorem catS_all (rs : List (List ByteArray)) : catS rs rs.length = rs.flatten := by simp [catS]
theorem catS_le (rs : List (List ByteArray)) (k : Nat) : (catS rs k).length ≤ rs.flatten.length := by
  unfold catS
  conv => rhs; rw [← List.take_append_drop k rs, List.flatten_append, List.length_append]
  omega
/-- Rows, each with what it holds. -/
def RwsS (xs : List AV) (rs : List (List ByteArray)) : Prop := xs.length = rs.length ∧ ∀ k, k < rs.length → ∃ cx, xs.getD k .any = .vsl (rs.getD k []).length (strs (rs.getD k [])) cx
theorem RwsS.nr {xs : List AV} {rs : List (List ByteArray)} (h : RwsS xs rs) : ∀ x ∈ xs, NR x := by
  intro x hx
  obtain ⟨j, hj, rfl⟩ := List.mem_iff_getElem.1 hx
  obtain ⟨cx, e⟩ := h.2 j (by have := h.1; omega)
  rw [List.getD_eq_getElem?_getD, List.getElem?_eq_getElem hj] at e
  rw [show xs[j] = _ from e]
  exact NR.vsl (NR.strs _)
theorem RwsS.nil : RwsS [] [] := ⟨rfl, fun k hk => absurd hk (Nat.not_lt_zero _)⟩
theorem RwsS.cons {xs : List AV} {rs : List (List ByteArray)} {r : List ByteArray} {n : Nat} {cx : Option Nat} (hn : r.length = n) (h : RwsS xs rs) : RwsS (.vsl n (strs r) cx :: xs) (r :: rs) := by
  subst hn
  refine ⟨by simp [h.1], fun k hk => ?_⟩
  cases k with
  | zero => exact ⟨cx, rfl⟩
  | succ k => exact h.2 k (by simpa using hk)
theorem concatS_n (xs : List AV) (cx : Option Nat) (rs : List (List ByteArray)) (hr : RwsS xs rs) (T : List ByteArray) (hT : rs.flatten = T) (h0 : 0 < T.length) (h1 : T.length ≤ 1000000) (h2 : rs.length ≤ 1000000) :
    NCall Tryz.prog glob 29 [.vsl rs.length xs cx] 9 T.length T.length 1 false (strs T) := by
  subst hT
  refine NCall.of (v := rs.length) ctx.nr (by intro a ha; rw [List.mem_singleton] at ha; subst ha; exact NR.vsl hr.nr) (NR.strs _) ?_
  refine lcall29 (by simp) 1 (Nat.zero_le _) ?_
  unfold lc29
  refine I1 tt ⟨?_⟩
  have hxl := hr.1
  refine G1 F1 tt tt tt tt ⟨?_⟩
  refine lavc_loopM ms29_0 (fun n (k : Nat) => n + k = rs.length) (fun k => [(3, .v (.int .i64 (catS rs k).length)), (11, .v (.int .i64 k))]) (fun k => []) rs.length 0 rfl ?_ rfl ?_
  · try unfold ms29_0
    refine A1 tt ⟨?_⟩
    exact ⟨rfl, rfl⟩
  · intro n k hk
    try unfold ms29_0
    refine M1 tt ⟨?_⟩
    refine G1 F1 tt tt tt tt ⟨?_⟩
    refine cnd rfl (fun hc => ?_) (fun hc => ?_)
    · obtain ⟨c1, hrow⟩ := hr.2 k (by omega)
      have hs := catS_step rs k (by omega)
      have hle := catS_le rs (k + 1)
      have hs2 : (catS rs (k + 1)).length = (catS rs k).length + (rs.getD k []).length := by rw [hs, List.length_append]
      have e1 := i64n (((catS rs k).length : Int) + ((rs.getD k []).length : Int)) (catS rs (k + 1)).length (by omega) (by omega)
      have e2 := i64n ((k : Int) + 1) (k + 1) (by omega) (by omega)
      refine G1 F1 (an hrow (an e1 tt)) tt tt tt ⟨?_⟩
      refine cnd rfl (fun hc => ?_) (fun hc => ?_)
      · exact absurd hc (by omega)
      · refine G1 F1 (an e2 tt) tt tt tt ⟨?_⟩
        refine ⟨n - 1, k + 1, by omega, by omega, ?_, (by first | rfl | trivial)⟩
        try unfold ms29_0
        exact A0 tt
    · have : k = rs.length := by omega
      subst this
      have c := growS rs.flatten.length h0 h1
      repeat (first
        | (with_reducible refine lops_step fun K hK => ?_; simp (disch := first | exact dch | fail) only [go_sem, Nat.reduceAdd, Nat.reduceSub, reduceIte, Nat.reduceEqDiff, Int.reduceToNat, Int.reduceBEq, Int.reduceBNe, catS_all]; (repeat (with_reducible refine And.intro acl ?_)); (first | (refine hK _ _ ?_) | (refine ⟨_, rfl, hK _ _ ?_⟩) | (refine Or.inl (hK _ _ ?_)) | (refine ⟨_, _, Or.inl (c.go _), (by first | exact ⟨[], (List.append_nil _).symm⟩ | exact ⟨_, rfl⟩), hK _ _ ?_⟩) | (refine ⟨_, _, Or.inl (c.go _), hK _ _ ?_⟩) | (refine ⟨_, _, Or.inl (c.go _).weakQ, hK _ _ ?_⟩)); clear hK K)
        | (with_reducible refine lops_nil ?_)
        | (with_reducible first | refine lavc_reg ?_ | refine lavc_seq ?_ | refine lavc_block ?_ | refine lavc_skip ?_ | refine lavc_exit ?_ | refine lavc_ret ?_ | refine lavcR_round ?_)
        | (simp only [↓reduceIte, Nat.reduceEqDiff, reduceCtorEq]))
      refine lavc_loopM ms29_1 (fun n (x : Nat × Nat × List ByteArray) => n + x.1 = rs.length ∧ catS rs x.1 = x.2.2.take (catS rs x.1).length ∧ (catS rs x.1).length ≤ x.2.2.length ∧ (0 < x.1 → x.2.1 = (catS rs x.1).length ∧ x.2.2 = catS rs x.1)) (fun x => [(6, .sl 0 x.1 0 (catS rs x.1).length x.2.1 1 false), (27, .v (.int .i64 x.1))]) (fun x => [⟨strs x.2.2, x.1, true, 9⟩]) rs.length (0, rs.flatten.length, List.replicate rs.flatten.length ⟨#[]⟩) ⟨rfl, by simp [catS], by simp [catS], fun h => absurd h (by simp)⟩ ?_ rfl ?_
      · try unfold ms29_1
        refine A1 tt ⟨?_⟩
        exact ⟨rfl, rfl⟩
      · rintro n ⟨k, cap, cs⟩ ⟨hk, hcs, hcl, hpos⟩
        simp only at hk hcs hcl hpos
        try unfold ms29_1
        refine M1 tt ⟨?_⟩
        refine G1 F1 tt tt tt tt ⟨?_⟩
        refine cnd rfl (fun hc => ?_) (fun hc => ?_)
        · obtain ⟨c1, hrow⟩ := hr.2 k (by omega)
          have hs := catS_step rs k (by omega)
          have hle := catS_le rs (k + 1)
          have hs2 : (catS rs (k + 1)).length = (catS rs k).length + (rs.getD k []).length := by rw [hs, List.length_append]
          have e2 := i64n ((k : Int) + 1) (k + 1) (by omega) (by omega)
          repeat (first
            | (with_reducible refine lops_step fun K hK => ?_; simp (disch := first | exact dch | fail) only [go_sem, Nat.reduceAdd, Nat.reduceSub, reduceIte, Nat.reduceEqDiff, Int.reduceToNat, Int.reduceBEq, Int.reduceBNe, hrow, e2, strs_length, strs_one, strs_take, ← hs2, ← hcs, strs_append, ← hs]; (repeat (with_reducible refine And.intro acl ?_)); (first | (refine hK _ _ ?_) | (refine ⟨_, rfl, hK _ _ ?_⟩) | (refine Or.inl (hK _ _ ?_))); clear hK K)
            | (with_reducible refine lops_nil ?_)
            | (with_reducible first | refine lavc_reg ?_ | refine lavc_seq ?_ | refine lavc_block ?_ | refine lavc_skip ?_ | refine lavc_exit ?_ | refine lavc_ret ?_ | refine lavcR_round ?_)
            | (simp only [↓reduceIte, Nat.reduceEqDiff, reduceCtorEq]))
          refine ⟨n - 1, (k + 1, (catS rs (k + 1)).length, catS rs (k + 1)), by omega, ⟨by simp only; omega, by simp, by simp, fun _ => ⟨rfl, rfl⟩⟩, ?_, (by first | rfl | trivial)⟩
          try unfold ms29_1
          exact A0 tt
        · have : k = rs.length := by omega
          subst this
          have hpos1 : 0 < rs.length := by
            cases rs with
            | nil => simp at h0
            | cons => simp
          obtain ⟨rfl, rfl⟩ := hpos hpos1
          repeat (first
            | (with_reducible refine lops_step fun K hK => ?_; simp (disch := first | exact dch | fail) only [go_sem, Nat.reduceAdd, Nat.reduceSub, reduceIte, Nat.reduceEqDiff, Int.reduceToNat, Int.reduceBEq, Int.reduceBNe, catS_all]; (repeat (with_reducible refine And.intro acl ?_)); (first | (refine hK _ _ ?_) | (refine ⟨_, rfl, hK _ _ ?_⟩) | (refine Or.inl (hK _ _ ?_))); clear hK K)
            | (with_reducible refine lops_nil ?_)
            | (with_reducible first | refine lavc_reg ?_ | refine lavc_seq ?_ | refine lavc_block ?_ | refine lavc_skip ?_ | refine lavc_exit ?_ | refine lavc_ret ?_ | refine lavcR_round ?_)
            | (simp only [↓reduceIte, Nat.reduceEqDiff, reduceCtorEq]))
          refine And.intro (by simp) ?_
          simp (disch := first | exact dch | fail) only [go_sem, Nat.reduceAdd, Nat.reduceSub, reduceIte, Nat.reduceEqDiff, Int.reduceToNat, Int.reduceBEq, Int.reduceBNe, aret, aretL, aret1, aenv, catS_all]
          (repeat (with_reducible refine And.intro acl ?_))
          exact endN (NR.strs _) rfl
theorem concatS_p (xs : List AV) (cx : Option Nat) (rs : List (List ByteArray)) (hr : RwsS xs rs) (T : List ByteArray) (hT : rs.flatten = T) (h0 : 0 < T.length) (h1 : T.length ≤ 1000000) (h2 : rs.length ≤ 1000000) :
    PCall Tryz.prog glob 29 [.vsl rs.length xs cx] (.vsl T.length (strs T) none) := by
  have := (concatS_n xs cx rs hr T hT h0 h1 h2).view ctx.nr (by intro a ha; rw [List.mem_singleton] at ha; subst ha; exact NR.vsl hr.nr) (NR.strs _) (Nat.le_refl _) (by simp [strs_length])
  rwa [show (strs T).take (T.length * 1) = strs T from List.take_of_length_le (by simp [strs_length])] at this
end Go.Abs.S
namespace Go.Abs.S
open Go.Proofs
open Go.Abs.H
set_option linter.unusedVariables false
set_option linter.unusedSimpArgs false
set_option maxRecDepth 100000
set_option maxHeartbeats 4000000
def ltI : List Int → List Int → Prop
  | _, [] => False
  | [], _ :: _ => True
  | a :: x, b :: y => a < b ∨ (a = b ∧ ltI x y)
abbrev By0 (l : List Int) : Prop := ∀ x ∈ l, 0 ≤ x ∧ x ≤ 255
theorem bt_str {l : List Int} (hl : By0 l) (i : Nat) (h : i < l.length) : bt (strOf l) i = l.getD i 0 := by
  unfold bt strOf
  have hx := hl _ (List.getElem_mem h)
  simp only [List.getD_eq_getElem?_getD, List.getElem?_map, List.getElem?_eq_getElem h, Option.map_some, Option.getD_some]
  simp only [UInt8.toNat_ofNat']
  omega
abbrev c48 (n : Nat) : Int := ((48 + n % 10 : Nat) : Int)
/-- A moment's text, byte by byte. -/
theorem txt_list (t : Mom) : txt t = [c48 (t.x.y.toNat / 1000), c48 (t.x.y.toNat / 100), c48 (t.x.y.toNat / 10), c48 t.x.y.toNat, 45, c48 (t.x.m.toNat / 10), c48 t.x.m.toNat, 45, c48 (t.x.d.toNat / 10), c48 t.x.d.toNat, 84, c48 (t.h.toNat / 10), c48 t.h.toNat, 58, c48 (t.i.toNat / 10), c48 t.i.toNat, 58, c48 (t.s.toNat / 10), c48 t.s.toNat, 90] := by
  unfold txt
  simp only [digs2, digs4]
  rfl
theorem c48_in (n : Nat) : 0 ≤ c48 n ∧ c48 n ≤ 255 := by
  unfold c48
  omega
theorem txt_by (t : Mom) : By0 (txt t) := by
  rw [txt_list]
  intro x hx
  simp only [List.mem_cons, List.not_mem_nil, or_false] at hx
  rcases hx with rfl | rfl | rfl | rfl | rfl | rfl | rfl | rfl | rfl | rfl | rfl | rfl | rfl | rfl | rfl | rfl | rfl | rfl | rfl | rfl <;> first | exact c48_in _ | decide
theorem txt_length (t : Mom) : (txt t).length = 20 := by rw [txt_list]; rfl
/-- One moment ahead of another. -/
def lexLt (a b : Mom) : Prop := a.x.y < b.x.y ∨ (a.x.y = b.x.y ∧ (a.x.m < b.x.m ∨ (a.x.m = b.x.m ∧ (a.x.d < b.x.d ∨ (a.x.d = b.x.d ∧ (a.h < b.h ∨ (a.h = b.h ∧ (a.i < b.i ∨ (a.i = b.i ∧ a.s < b.s)))))))))
/-- A moment's text is read as it. -/
theorem bt_txt (t : Mom) (i : Nat) (h : i < 20) : bt (strOf (txt t)) i = (txt t).getD i 0 := bt_str (txt_by t) i (by rw [txt_length]; exact h)
theorem c48_d (n : Nat) : 48 ≤ c48 n ∧ c48 n ≤ 57 := by
  unfold c48
  omega
theorem two_c48 {x : Int} (h0 : 0 ≤ x) (h1 : x < 100) : (c48 (x.toNat / 10) - 48) * 10 + (c48 x.toNat - 48) = x := by
  unfold c48
  omega
theorem four_c48 {x : Int} (h0 : 0 ≤ x) (h1 : x < 10000) : (((c48 (x.toNat / 1000) - 48) * 10 + (c48 (x.toNat / 100) - 48)) * 10 + (c48 (x.toNat / 10) - 48)) * 10 + (c48 x.toNat - 48) = x := by
  unfold c48
  omega
/-- Bytes that begin as a moment's text does. -/
structure Begins (s : ByteArray) (t : Mom) : Prop where
  b0 : bt s 0 = c48 (t.x.y.toNat / 1000)
  b1 : bt s 1 = c48 (t.x.y.toNat / 100)
  b2 : bt s 2 = c48 (t.x.y.toNat / 10)
  b3 : bt s 3 = c48 t.x.y.toNat
  b4 : bt s 4 = 45
  b5 : bt s 5 = c48 (t.x.m.toNat / 10)
  b6 : bt s 6 = c48 t.x.m.toNat
  b7 : bt s 7 = 45
  b8 : bt s 8 = c48 (t.x.d.toNat / 10)
  b9 : bt s 9 = c48 t.x.d.toNat
  b10 : bt s 10 = 84
  b11 : bt s 11 = c48 (t.h.toNat / 10)
  b12 : bt s 12 = c48 t.h.toNat
  b13 : bt s 13 = 58
  b14 : bt s 14 = c48 (t.i.toNat / 10)
  b15 : bt s 15 = c48 t.i.toNat
  b16 : bt s 16 = 58
  b17 : bt s 17 = c48 (t.s.toNat / 10)
  b18 : bt s 18 = c48 t.s.toNat
theorem Begins.d19 {s : ByteArray} {t : Mom} (b : Begins s t) : D19 s := by
  unfold D19 dg
  rw [b.b0, b.b1, b.b2, b.b3, b.b4, b.b5, b.b6, b.b7, b.b8, b.b9, b.b10, b.b11, b.b12, b.b13, b.b14, b.b15, b.b16, b.b17, b.b18]
  exact ⟨⟨c48_d _, c48_d _, c48_d _, c48_d _⟩, rfl, ⟨c48_d _, c48_d _⟩, rfl, ⟨c48_d _, c48_d _⟩, rfl, ⟨c48_d _, c48_d _⟩, rfl, ⟨c48_d _, c48_d _⟩, rfl, ⟨c48_d _, c48_d _⟩⟩
theorem Begins.mom {s : ByteArray} {t : Mom} (b : Begins s t) (ht : t.ok) : momS s = t := by
  have ha := ht.1.all
  have hh := ht.2
  unfold momS n4 n2
  simp only [Nat.zero_add, Nat.reduceAdd]
  rw [b.b0, b.b1, b.b2, b.b3, b.b5, b.b6, b.b8, b.b9, b.b11, b.b12, b.b14, b.b15, b.b17, b.b18]
  rw [four_c48 (x := t.x.y) (by omega) (by omega), two_c48 (x := t.x.m) (by omega) (by omega), two_c48 (x := t.x.d) (by omega) (by omega), two_c48 (x := t.h) (by omega) (by omega), two_c48 (x := t.i) (by omega) (by omega), two_c48 (x := t.s) (by omega) (by omega)]
theorem begins_of {l : List Int} (hl : By0 l) (t : Mom) (r : List Int) (h : l = (txt t).take 19 ++ r) : Begins (strOf l) t := by
  have hlen : 19 ≤ l.length := by rw [h, List.length_append, List.length_take, txt_length]; omega
  have e : ∀ i, i < 19 → bt (strOf l) i = (txt t).getD i 0 := fun i hi => by
    rw [bt_str hl i (by omega), h]
    simp only [List.getD_eq_getElem?_getD]
    rw [List.getElem?_append_left (by rw [List.length_take, txt_length]; omega), List.getElem?_take, if_pos hi]
  have f : ∀ i v, i < 19 → (txt t).getD i 0 = v → bt (strOf l) i = v := fun i v hi hv => by rw [e i hi, hv]
  have g := txt_list t
  exact ⟨f 0 _ (by omega) (by rw [g]; rfl), f 1 _ (by omega) (by rw [g]; rfl), f 2 _ (by omega) (by rw [g]; rfl), f 3 _ (by omega) (by rw [g]; rfl), f 4 _ (by omega) (by rw [g]; rfl), f 5 _ (by omega) (by rw [g]; rfl), f 6 _ (by omega) (by rw [g]; rfl), f 7 _ (by omega) (by rw [g]; rfl), f 8 _ (by omega) (by rw [g]; rfl), f 9 _ (by omega) (by rw [g]; rfl), f 10 _ (by omega) (by rw [g]; rfl), f 11 _ (by omega) (by rw [g]; rfl), f 12 _ (by omega) (by rw [g]; rfl), f 13 _ (by omega) (by rw [g]; rfl), f 14 _ (by omega) (by rw [g]; rfl), f 15 _ (by omega) (by rw [g]; rfl), f 16 _ (by omega) (by rw [g]; rfl), f 17 _ (by omega) (by rw [g]; rfl), f 18 _ (by omega) (by rw [g]; rfl)⟩
theorem read_txt (t : Mom) (ht : t.ok) : readP (strOf (txt t)) = (secs t, 0) := by
  have hb : Begins (strOf (txt t)) t := begins_of (txt_by t) t [90] (by rw [txt_list]; rfl)
  have hs : (strOf (txt t)).size = 20 := by rw [str_size, txt_length]
  have h19 : bt (strOf (txt t)) 19 = 90 := by rw [bt_txt t 19 (by omega), txt_list]; rfl
  have hF : Formed (strOf (txt t)) := ⟨hb.d19, .inl ⟨hs, h19⟩⟩
  have hsh : shf (strOf (txt t)) = 0 := by unfold shf; rw [if_pos hs]
  have hi := secs_in ht
  unfold readP
  rw [if_neg (not_not_intro hF), if_neg (by omega), hb.mom ht, if_neg (not_not_intro ht), hsh, Int.add_zero, if_neg (by omega)]
end Go.Abs.S
namespace Go.Abs.S
attribute [local go_sem] lguard aopO aop aenv toAV tput aLoad aStore vcells aBin aNilI aUn aAlloc aBox aBuild aBSlice afill aConv isIntT aappZ aCap aArr aMM aMake aSlice bnd3 bnd aFldAddr aFld aIdxAddr aIdx aExt aLen aCopy aEq0 bAV aUb aapp aappQ agh acont List.getD_cons_zero List.getD_cons_succ List.set_cons_zero List.set_cons_succ List.getElem?_cons_zero List.getElem?_cons_succ List.length_cons List.length_nil List.map_cons List.map_nil ints_length if_true if_false Bool.false_eq_true true_and and_true eq_self ne_eq not_false_eq_true not_true_eq_false beq_self_eq_true Nat.zero_add Nat.add_zero Nat.mul_one Nat.zero_mul Int.toNat_natCast List.toList_toArray List.all_cons List.all_nil AV.one Value.oneCell' Bool.and_true Bool.true_and forall_const true_implies false_implies implies_true Option.map_some Option.map_none Option.isSome_some Option.isSome_none imp_self rdP_flat rdP_row splice_one ints_set ints_get List.append_nil List.cons_append List.nil_append List.getElem?_toArray List.drop_zero ints_drop ints_take List.take_of_length_le splice_all ints_one Option.some.injEq Option.getD_some List.length_replicate zArr List.map_replicate rep_ints splice_intsR List.length_set List.length_append List.flatten_replicate_singleton rep_slice rep_string rep_bool rep_iface List.replicate_zero if_pos if_neg List.mapM_cons List.mapM_nil Option.pure_def Option.bind_eq_bind Option.bind_some Bool.true_eq_false Bool.not_false Bool.not_true get_concat set_concat
open Go.Proofs
open Go.Abs.H
open Go.Proofs.YtgmchiadphdlhaaGreatDoor.Chk
set_option linter.unusedVariables false
set_option linter.unusedSimpArgs false
set_option maxRecDepth 100000
set_option maxHeartbeats 4000000
theorem pick_mem (ss : List ByteArray) (d : Nat) (hd : d < 2) (pre : List Nat) : ∀ s ∈ pick ss d pre, s ∈ ss := by
  intro s hs
  simp only [pick, List.mem_filterMap] at hs
  obtain ⟨k, _, hk⟩ := hs
  split at hk
  · simp only [Option.some.injEq] at hk
    rw [← hk, List.getD_eq_getElem?_getD, List.getElem?_eq_getElem (by omega)]
    exact List.getElem_mem _
  · exact absurd hk (by simp)
theorem nms_mem (ss : List ByteArray) : ∀ s ∈ nms ss, s ∈ ss := pick_mem ss 0 (by omega) _
theorem txs_mem (ss : List ByteArray) : ∀ s ∈ txs ss, s ∈ ss := pick_mem ss 1 (by omega) _
theorem txs_len (ss : List ByteArray) : (txs ss).length = (nms ss).length := pick_len ss 1 0 _

/-- A name's text, of a page of texts. -/
def txP (N X : List ByteArray) (name : ByteArray) : ByteArray × Bool := if idxK N name 0 < 0 then (⟨#[]⟩, false) else (X.getD (idxK N name 0).toNat ⟨#[]⟩, true)
theorem textT_p (N X : List ByteArray) (hX : X.length = N.length) (hl : N.length ≤ 1000) (now : Int) (name : ByteArray) :
    PCall Tryz.prog glob 36 [claA (.vsl N.length (strs N) none) (.vsl N.length (vals X) none) now, stA name] (.tup [stA (txP N X name).1, .v (.bool (txP N X name).2)]) := by
  have g := get_p N X hX hl name
  unfold getA at g
  unfold txP
  split at g
  · rename_i h
    rw [if_pos h]
    exact text_p _ _ (NR.vsl (NR.strs _)) (NR.vsl (NR.valsX _)) now name 0 ⟨#[]⟩ nlA nlA (.inl rfl) (.inl rfl) false g
  · rename_i h
    rw [if_neg h]
    exact text_p _ _ (NR.vsl (NR.strs _)) (NR.vsl (NR.valsX _)) now name 4 (X.getD (idxK N name 0).toNat ⟨#[]⟩) nlA nlA (.inl rfl) (.inl rfl) true g
/-- What rules say of a page of texts. -/
def chkPg (N X : List ByteArray) (now : Int) (l : List Rule3) : Int := if goodPg N X = 0 then chkAll (txP N X) now l else 2
theorem CheckT_p (N X : List ByteArray) (hX : X.length = N.length) (hl : N.length ≤ 1000) (hz : ∀ s ∈ N, s.size ≤ 9223372036854775807) (hx : ∀ s ∈ X, s.size ≤ 9223372036854775807) (now : Int) (l : List Rule3) (hll : l.length ≤ 1000) (hr : ∀ r ∈ l, r.1 ≠ 1 → r.1 ≠ 2 → (txP N X r.2.1).1.size ≤ 1000000) (c : Option Nat) :
    PCall Tryz.prog glob 8 [pageA N X, ivC now, .vsl l.length (rulesA l) c] (ivC (chkPg N X now l)) := by
  have g := Good_p N X hX hl hz hx
  unfold chkPg
  by_cases h : goodPg N X = 0
  · rw [if_pos h]
    rw [h] at g
    exact Check_p _ _ (NR.strs _) _ _ (NR.valsX _) now g (txP N X) (textT_p N X hX hl now) l hll hr c
  · rw [if_neg h]
    exact Check_bad _ _ _ _ (NR.strs _) _ _ (NR.valsX _) now _ g (.inr h) l c
/-- The texts that claims are made of. -/
def mk8 (i a x y : ByteArray) : List ByteArray := [issB, i, audB, a, nbfB, x, expB, y]
abbrev zeroA : AV := .agg [ivC 0, stA ⟨#[]⟩, nlA, nlA]
/-- A page and 0, or none and what is wrong. -/
def madeA (ss : List ByteArray) : AV := if goodPg (nms ss) (txs ss) = 0 then .tup [pageA (nms ss) (txs ss), ivC 0] else .tup [zeroA, ivC (goodPg (nms ss) (txs ss))]
theorem NR.zeroA : NR zeroA := NR.agg (by intro c hc; simp only [List.mem_cons, List.not_mem_nil, or_false] at hc; rcases hc with rfl | rfl | rfl | rfl <;> exact NR.v _)
theorem NR.t2n {a b : AV} (ha : NR a) (hb : NR b) : NR (.tup [a, b]) := NR.tup (by intro c hc; simp only [List.mem_cons, List.not_mem_nil, or_false] at hc; rcases hc with rfl | rfl; exact ha; exact hb)
theorem NR.madeA (ss : List ByteArray) : NR (madeA ss) := by
  unfold Go.Abs.S.madeA
  split
  · exact NR.t2n (NR.pageA _ _) (NR.v _)
  · exact NR.t2n NR.zeroA (NR.v _)
theorem make_nr (i a : ByteArray) (n m : Int) (more : List ByteArray) (c : Option Nat) : ∀ x ∈ [stA i, stA a, ivC n, ivC m, .vsl more.length (strs more) c], NR x := by
  intro x hx
  simp only [List.mem_cons, List.not_mem_nil, or_false] at hx
  rcases hx with rfl | rfl | rfl | rfl | rfl
  · exact NR.v _
  · exact NR.v _
  · exact NR.v _
  · exact NR.v _
  · exact NR.vsl (NR.strs _)
theorem Make_p (i a : ByteArray) (t u : Mom) (ht : t.ok) (hu : u.ok) (more : List ByteArray) (c : Option Nat) (hm : more.length ≤ 100) (hi : i.size ≤ 9223372036854775807) (ha : a.size ≤ 9223372036854775807) (hs : ∀ s ∈ more, s.size ≤ 9223372036854775807) :
    PCall Tryz.prog glob 14 [stA i, stA a, ivC (secs t), ivC (secs u), .vsl more.length (strs more) c] (madeA (mk8 i a (strOf (txt t)) (strOf (txt u)) ++ more)) := by
  refine PCall.of ctx.nr (make_nr i a _ _ more c) (NR.madeA _) ?_
  have tp := Text_p t ht
  have up := Text_p u hu
  have zt : (strOf (txt t)).size = 20 := by rw [str_size, txt_length]
  have zu : (strOf (txt u)).size = 20 := by rw [str_size, txt_length]
  refine lcall14 (by simp) 0 (Nat.le_refl _) ?_
  unfold lc14
  refine I1 tt ⟨?_⟩
  obtain ⟨x, hx⟩ : ∃ x, strOf (txt t) = x := ⟨_, rfl⟩
  obtain ⟨y, hy⟩ : ∃ y, strOf (txt u) = y := ⟨_, rfl⟩
  rw [hx] at tp zt ⊢
  rw [hy] at up zu ⊢
  obtain ⟨n, hn⟩ : ∃ n, secs t = n := ⟨_, rfl⟩
  obtain ⟨m, hm'⟩ : ∃ n, secs u = n := ⟨_, rfl⟩
  rw [hn] at tp ⊢
  rw [hm'] at up ⊢
  have hall : ∀ s ∈ mk8 i a x y ++ more, s.size ≤ 9223372036854775807 := by
    intro s h
    rw [List.mem_append] at h
    rcases h with h | h
    · simp only [mk8, List.mem_cons, List.not_mem_nil, or_false] at h
      rcases h with rfl | rfl | rfl | rfl | rfl | rfl | rfl | rfl
      all_goals first | assumption | omega | decide
    · exact hs s h
  have hT : (mk8 i a x y ++ more).length = 8 + more.length := by rw [List.length_append]; rfl
  have cc := concatS_p [.vsl 8 (strs (mk8 i a x y)) (some 8), .vsl more.length (strs more) c] (some 2) [mk8 i a x y, more] (RwsS.cons rfl (RwsS.cons rfl RwsS.nil)) (mk8 i a x y ++ more) (by simp) (by omega) (by omega) (show 2 ≤ 1000000 by decide)
  obtain ⟨T, hT2⟩ : ∃ T, mk8 i a x y ++ more = T := ⟨_, rfl⟩
  rw [hT2] at cc hT hall ⊢
  have po := pageOf_p T none (by omega)

  have hlen : (nms T).length ≤ 1000 := by
    refine Nat.le_trans (Nat.le_trans (pick_le T 0 _) ?_) (show T.length ≤ 1000 by omega)
    rw [List.length_range]
    unfold parts
    omega
  have gp := Good_p (nms T) (txs T) (txs_len T) hlen (fun s h => hall s (nms_mem T s h)) (fun s h => hall s (txs_mem T s h))
  have hnr := NR.madeA T
  unfold madeA at hnr ⊢
  unfold pageA at po gp hnr ⊢
  unfold strs at cc
  simp only [mk8, List.map_cons, List.map_nil] at cc
  have cc : PCall Tryz.prog glob 29 [.vsl 2 [.vsl 8 [stA issB, stA i, stA audB, stA a, stA nbfB, stA x, stA expB, stA y] (some 8), .vsl more.length (strs more) c] (some 2)] (.vsl T.length (strs T) none) := cc
  obtain ⟨g, hg⟩ : ∃ g, goodPg (nms T) (txs T) = g := ⟨_, rfl⟩
  rw [hg] at gp hnr ⊢
  by_cases h0 : g = 0
  · subst h0
    rw [if_pos rfl] at hnr ⊢
    repeat (first
      | (with_reducible refine lops_step fun K hK => ?_; simp (disch := first | exact dch | fail) only [go_sem, Nat.reduceAdd, Nat.reduceSub, reduceIte, Nat.reduceEqDiff, Int.reduceToNat, Int.reduceBEq, Int.reduceBNe, List.replicate_succ, List.replicate_zero, List.flatten_cons, List.flatten_nil, List.cons_append, List.nil_append]; (try (first | (refine And.intro (fun _ => ?_) (fun h => absurd h (by decide))) | (refine And.intro (fun h => absurd h (by decide)) (fun _ => ?_)))); (repeat (with_reducible refine And.intro acl ?_)); (first | (refine hK _ _ ?_) | (refine ⟨_, rfl, hK _ _ ?_⟩) | (refine Or.inl (hK _ _ ?_)) | (refine ⟨_, _, Or.inl (tp.go _), (by first | exact ⟨[], (List.append_nil _).symm⟩ | exact ⟨_, rfl⟩), hK _ _ ?_⟩) | (refine ⟨_, _, Or.inl (tp.go _), hK _ _ ?_⟩) | (refine ⟨_, _, Or.inl (tp.go _).weakQ, hK _ _ ?_⟩) | (refine ⟨_, _, Or.inl (up.go _), (by first | exact ⟨[], (List.append_nil _).symm⟩ | exact ⟨_, rfl⟩), hK _ _ ?_⟩) | (refine ⟨_, _, Or.inl (up.go _), hK _ _ ?_⟩) | (refine ⟨_, _, Or.inl (up.go _).weakQ, hK _ _ ?_⟩) | (refine ⟨_, _, Or.inl (cc.go _), (by first | exact ⟨[], (List.append_nil _).symm⟩ | exact ⟨_, rfl⟩), hK _ _ ?_⟩) | (refine ⟨_, _, Or.inl (cc.go _), hK _ _ ?_⟩) | (refine ⟨_, _, Or.inl (cc.go _).weakQ, hK _ _ ?_⟩) | (refine ⟨_, _, Or.inl (po.go _), (by first | exact ⟨[], (List.append_nil _).symm⟩ | exact ⟨_, rfl⟩), hK _ _ ?_⟩) | (refine ⟨_, _, Or.inl (po.go _), hK _ _ ?_⟩) | (refine ⟨_, _, Or.inl (po.go _).weakQ, hK _ _ ?_⟩) | (refine ⟨_, _, Or.inl (gp.go _), (by first | exact ⟨[], (List.append_nil _).symm⟩ | exact ⟨_, rfl⟩), hK _ _ ?_⟩) | (refine ⟨_, _, Or.inl (gp.go _), hK _ _ ?_⟩) | (refine ⟨_, _, Or.inl (gp.go _).weakQ, hK _ _ ?_⟩)); clear hK K)
      | (with_reducible refine lops_nil ?_)
      | (with_reducible first | refine lavc_reg ?_ | refine lavc_seq ?_ | refine lavc_block ?_ | refine lavc_skip ?_ | refine lavc_exit ?_ | refine lavc_ret ?_ | refine lavcR_round ?_)
      | (refine lavc_cond rfl (fun _ => ?_) (fun hc => absurd hc (by decide)))
      | (refine lavc_cond rfl (fun hc => absurd hc (by decide)) (fun _ => ?_))
      | (simp only [↓reduceIte, Nat.reduceEqDiff, reduceCtorEq]))
    refine R1 tt ⟨?_⟩
    exact end0 hnr rfl
  · rw [if_neg h0] at hnr ⊢
    have d : ((g : Int) != 0) = true := by rw [bne_iff_ne, ne_eq]; omega
    repeat (first
      | (with_reducible refine lops_step fun K hK => ?_; simp (disch := first | exact dch | fail) only [go_sem, Nat.reduceAdd, Nat.reduceSub, reduceIte, Nat.reduceEqDiff, Int.reduceToNat, Int.reduceBEq, Int.reduceBNe, d, List.replicate_succ, List.replicate_zero, List.flatten_cons, List.flatten_nil, List.cons_append, List.nil_append]; (try (first | (refine And.intro (fun _ => ?_) (fun h => absurd h (by decide))) | (refine And.intro (fun h => absurd h (by decide)) (fun _ => ?_)))); (repeat (with_reducible refine And.intro acl ?_)); (first | (refine hK _ _ ?_) | (refine ⟨_, rfl, hK _ _ ?_⟩) | (refine Or.inl (hK _ _ ?_)) | (refine ⟨_, _, Or.inl (tp.go _), (by first | exact ⟨[], (List.append_nil _).symm⟩ | exact ⟨_, rfl⟩), hK _ _ ?_⟩) | (refine ⟨_, _, Or.inl (tp.go _), hK _ _ ?_⟩) | (refine ⟨_, _, Or.inl (tp.go _).weakQ, hK _ _ ?_⟩) | (refine ⟨_, _, Or.inl (up.go _), (by first | exact ⟨[], (List.append_nil _).symm⟩ | exact ⟨_, rfl⟩), hK _ _ ?_⟩) | (refine ⟨_, _, Or.inl (up.go _), hK _ _ ?_⟩) | (refine ⟨_, _, Or.inl (up.go _).weakQ, hK _ _ ?_⟩) | (refine ⟨_, _, Or.inl (cc.go _), (by first | exact ⟨[], (List.append_nil _).symm⟩ | exact ⟨_, rfl⟩), hK _ _ ?_⟩) | (refine ⟨_, _, Or.inl (cc.go _), hK _ _ ?_⟩) | (refine ⟨_, _, Or.inl (cc.go _).weakQ, hK _ _ ?_⟩) | (refine ⟨_, _, Or.inl (po.go _), (by first | exact ⟨[], (List.append_nil _).symm⟩ | exact ⟨_, rfl⟩), hK _ _ ?_⟩) | (refine ⟨_, _, Or.inl (po.go _), hK _ _ ?_⟩) | (refine ⟨_, _, Or.inl (po.go _).weakQ, hK _ _ ?_⟩) | (refine ⟨_, _, Or.inl (gp.go _), (by first | exact ⟨[], (List.append_nil _).symm⟩ | exact ⟨_, rfl⟩), hK _ _ ?_⟩) | (refine ⟨_, _, Or.inl (gp.go _), hK _ _ ?_⟩) | (refine ⟨_, _, Or.inl (gp.go _).weakQ, hK _ _ ?_⟩)); clear hK K)
      | (with_reducible refine lops_nil ?_)
      | (with_reducible first | refine lavc_reg ?_ | refine lavc_seq ?_ | refine lavc_block ?_ | refine lavc_skip ?_ | refine lavc_exit ?_ | refine lavc_ret ?_ | refine lavcR_round ?_)
      | (refine lavc_cond rfl (fun _ => ?_) (fun hc => absurd hc (by decide)))
      | (refine lavc_cond rfl (fun hc => absurd hc (by decide)) (fun _ => ?_))
      | (simp only [↓reduceIte, Nat.reduceEqDiff, reduceCtorEq]))
    refine R1 tt ⟨?_⟩
    exact end0 hnr rfl
end Go.Abs.S
namespace Go.Abs.S
attribute [local go_sem] lguard aopO aop aenv toAV tput aLoad aStore vcells aBin aNilI aUn aAlloc aBox aBuild aBSlice afill aConv isIntT aappZ aCap aArr aMM aMake aSlice bnd3 bnd aFldAddr aFld aIdxAddr aIdx aExt aLen aCopy aEq0 bAV aUb aapp aappQ agh acont List.getD_cons_zero List.getD_cons_succ List.set_cons_zero List.set_cons_succ List.getElem?_cons_zero List.getElem?_cons_succ List.length_cons List.length_nil List.map_cons List.map_nil ints_length if_true if_false Bool.false_eq_true true_and and_true eq_self ne_eq not_false_eq_true not_true_eq_false beq_self_eq_true Nat.zero_add Nat.add_zero Nat.mul_one Nat.zero_mul Int.toNat_natCast List.toList_toArray List.all_cons List.all_nil AV.one Value.oneCell' Bool.and_true Bool.true_and forall_const true_implies false_implies implies_true Option.map_some Option.map_none Option.isSome_some Option.isSome_none imp_self rdP_flat rdP_row splice_one ints_set ints_get List.append_nil List.cons_append List.nil_append List.getElem?_toArray List.drop_zero ints_drop ints_take List.take_of_length_le splice_all ints_one Option.some.injEq Option.getD_some List.length_replicate zArr List.map_replicate rep_ints splice_intsR List.length_set List.length_append List.flatten_replicate_singleton rep_slice rep_string rep_bool rep_iface List.replicate_zero if_pos if_neg List.mapM_cons List.mapM_nil Option.pure_def Option.bind_eq_bind Option.bind_some Bool.true_eq_false Bool.not_false Bool.not_true get_concat set_concat
open Go.Proofs
open Go.Abs.H
open Go.Proofs.YtgmchiadphdlhaaGreatDoor.Chk
set_option linter.unusedVariables false
set_option linter.unusedSimpArgs false
set_option maxRecDepth 100000
set_option maxHeartbeats 4000000
def t0 : Mom := ⟨⟨1970, 1, 1⟩, 0, 0, 0⟩
def t5 : Mom := ⟨⟨1970, 1, 1⟩, 0, 0, 5⟩
theorem t0_ok : t0.ok := by unfold Mom.ok Date.ok; decide
theorem t5_ok : t5.ok := by unfold Mom.ok Date.ok; decide
theorem t0_secs : secs t0 = 0 := by decide
theorem t5_secs : secs t5 = 5 := by decide
abbrev iB : ByteArray := ⟨#[105]⟩
abbrev aB : ByteArray := ⟨#[97]⟩
theorem ex_good : goodPg (nms (mk8 iB aB (strOf (txt t0)) (strOf (txt t5)) ++ [])) (txs (mk8 iB aB (strOf (txt t0)) (strOf (txt t5)) ++ [])) = 0 := by decide +kernel
theorem nms8 (a b c d e f g h : ByteArray) : nms [a, b, c, d, e, f, g, h] = [a, c, e, g] := by
  have hp : parts 8 = 4 := by decide
  unfold nms
  rw [show [a, b, c, d, e, f, g, h].length = 8 from rfl, hp]
  rfl
theorem txs8 (a b c d e f g h : ByteArray) : txs [a, b, c, d, e, f, g, h] = [b, d, f, h] := by
  have hp : parts 8 = 4 := by decide
  unfold txs
  rw [show [a, b, c, d, e, f, g, h].length = 8 from rfl, hp]
  rfl
theorem chkAll_cons (tx : ByteArray → ByteArray × Bool) (now : Int) (r : Rule3) (l : List Rule3) : chkAll tx now (r :: l) = if checkP tx now r = 0 then chkAll tx now l else checkP tx now r := rfl
theorem chk3 (tx : ByteArray → ByteArray × Bool) (now : Int) (name want s : ByteArray) (n : Int) (h : tx name = (s, true)) (hr : readP s = (n, 0)) : checkP tx now (3, name, want) = if now < n then 13 else 0 := by
  unfold checkP wrongP
  rw [h]
  simp only
  rw [hr]
  by_cases hn : now < n
  · simp [hn]
  · simp [hn]
theorem chk4 (tx : ByteArray → ByteArray × Bool) (now : Int) (name want s : ByteArray) (n : Int) (h : tx name = (s, true)) (hr : readP s = (n, 0)) : checkP tx now (4, name, want) = if n ≤ now then 14 else 0 := by
  unfold checkP wrongP
  rw [h]
  simp only
  rw [hr]
  by_cases hn : n ≤ now
  · simp [hn]
  · simp [hn]
theorem chk1 (tx : ByteArray → ByteArray × Bool) (now : Int) (name want s : ByteArray) (h : tx name = (s, true)) : checkP tx now (1, name, want) = if s = want then 0 else 15 := by
  unfold checkP wrongP
  rw [h]
  simp
theorem ex_chk : chkPg (nms (mk8 iB aB (strOf (txt t0)) (strOf (txt t5)) ++ [])) (txs (mk8 iB aB (strOf (txt t0)) (strOf (txt t5)) ++ [])) 5 (usualP iB aB) = 14 := by
  unfold chkPg
  rw [if_pos ex_good]
  have r0 := read_txt t0 t0_ok
  have r5 := read_txt t5 t5_ok
  rw [t0_secs] at r0
  rw [t5_secs] at r5
  obtain ⟨A, hA⟩ : ∃ A, strOf (txt t0) = A := ⟨_, rfl⟩
  obtain ⟨B, hB⟩ : ∃ A, strOf (txt t5) = A := ⟨_, rfl⟩
  rw [hA] at r0 ⊢
  rw [hB] at r5 ⊢
  have eN := nms8 issB iB audB aB nbfB A expB B
  have eX := txs8 issB iB audB aB nbfB A expB B
  rw [show mk8 iB aB A B ++ [] = [issB, iB, audB, aB, nbfB, A, expB, B] from rfl]
  rw [eN, eX]
  have i1 : idxK [issB, audB, nbfB, expB] issB 0 = 0 := by decide
  have i2 : idxK [issB, audB, nbfB, expB] audB 0 = 1 := by decide
  have i3 : idxK [issB, audB, nbfB, expB] nbfB 0 = 2 := by decide
  have i4 : idxK [issB, audB, nbfB, expB] expB 0 = 3 := by decide
  have x1 : txP [issB, audB, nbfB, expB] [iB, aB, A, B] issB = (iB, true) := by unfold txP; rw [i1]; rfl
  have x2 : txP [issB, audB, nbfB, expB] [iB, aB, A, B] audB = (aB, true) := by unfold txP; rw [i2]; rfl
  have x3 : txP [issB, audB, nbfB, expB] [iB, aB, A, B] nbfB = (A, true) := by unfold txP; rw [i3]; rfl
  have x4 : txP [issB, audB, nbfB, expB] [iB, aB, A, B] expB = (B, true) := by unfold txP; rw [i4]; rfl
  unfold usualP
  rw [chkAll_cons, chk1 _ _ _ _ _ x1, if_pos rfl, if_pos rfl, chkAll_cons, chk1 _ _ _ _ _ x2, if_pos rfl, if_pos rfl, chkAll_cons, chk3 _ _ _ _ _ _ x3 r0, if_neg (show ¬ (5 : Int) < 0 by decide), if_pos rfl, chkAll_cons, chk4 _ _ _ _ _ _ x4 r5]
  rfl
theorem ex_small : ∀ r ∈ usualP iB aB, r.1 ≠ 1 → r.1 ≠ 2 → (txP (nms (mk8 iB aB (strOf (txt t0)) (strOf (txt t5)) ++ [])) (txs (mk8 iB aB (strOf (txt t0)) (strOf (txt t5)) ++ [])) r.2.1).1.size ≤ 1000000 := by decide +kernel
theorem awake_p : PCall Tryz.prog glob 5 [] (.v (.bool true)) := by
  refine PCall.of ctx.nr nrs (NR.v _) ?_
  refine lcall5 (by simp) 0 (Nat.le_refl _) ?_
  unfold lc5
  refine I1 tt ⟨?_⟩
  have mp := (Make_p iB aB t0 t5 t0_ok t5_ok [] none (by decide) (by decide) (by decide) (fun _ h => absurd h List.not_mem_nil)).les (args := [stA iB, stA aB, ivC (secs t0), ivC (secs t5), .v (.slice none 0 0)]) ⟨AvLe.refl _, AvLe.refl _, AvLe.refl _, AvLe.refl _, AvLe.nil, trivial⟩
  rw [t0_secs, t5_secs] at mp
  unfold madeA at mp
  rw [if_pos ex_good] at mp
  have hsz : ∀ s ∈ mk8 iB aB (strOf (txt t0)) (strOf (txt t5)) ++ [], s.size ≤ 9223372036854775807 := by decide +kernel
  have hln : (nms (mk8 iB aB (strOf (txt t0)) (strOf (txt t5)) ++ [])).length ≤ 1000 := by decide +kernel
  have cp := CheckT_p (nms (mk8 iB aB (strOf (txt t0)) (strOf (txt t5)) ++ [])) (txs (mk8 iB aB (strOf (txt t0)) (strOf (txt t5)) ++ [])) (txs_len _) hln (fun s h => hsz s (nms_mem _ s h)) (fun s h => hsz s (txs_mem _ s h)) 5 (usualP iB aB) (by decide) ex_small (some 4)
  rw [ex_chk] at cp
  have up := Usual_p iB aB
  obtain ⟨N, hN⟩ : ∃ N, nms (mk8 iB aB (strOf (txt t0)) (strOf (txt t5)) ++ []) = N := ⟨_, rfl⟩
  obtain ⟨X, hX⟩ : ∃ N, txs (mk8 iB aB (strOf (txt t0)) (strOf (txt t5)) ++ []) = N := ⟨_, rfl⟩
  rw [hN, hX] at mp cp
  unfold pageA at mp cp
  have cp : PCall Tryz.prog glob 8 [.agg [ivC 6, stA ⟨#[]⟩, .vsl N.length (strs N) none, .vsl N.length (vals X) none], ivC 5, .vsl 4 (rulesA (usualP iB aB)) (some 4)] (ivC 14) := cp
  refine G1 F4 tt (an mp.go (an up.go (an cp.go tt))) tt tt ⟨?_⟩
  refine R1 tt ⟨?_⟩
  exact end0 (NR.v _) rfl
end Go.Abs.S
namespace Go.Abs
set_option linter.unusedVariables false
set_option linter.unusedSimpArgs false
abbrev bl (s : ByteArray) : List UInt8 := s.data.toList
def bs (l : List UInt8) : ByteArray := ⟨l.toArray⟩
@[go_sem] theorem bl_bs (l : List UInt8) : (bs l).data.toList = l := rfl
theorem bs_bl (s : ByteArray) : bs s.data.toList = s := rfl
@[go_sem] theorem bs_size (l : List UInt8) : (bs l).size = l.length := by simp [bs, ByteArray.size]
theorem ba_ext {s t : ByteArray} (h : s.data.toList = t.data.toList) : s = t := by
  rw [← bs_bl s, ← bs_bl t, h]
theorem bs_ext (l : List UInt8) (a b : Nat) : (bs l).extract a b = bs ((l.drop a).take (b - a)) := by
  refine ba_ext ?_
  rw [ByteArray.data_extract, bl_bs]
  simp [bs, List.extract_eq_take_drop]
@[go_sem] theorem bs_mid (l : List UInt8) (a b : Nat) : (bs l).extract a b = bs ((l.drop a).take (b - a)) := bs_ext l a b
@[go_sem] theorem take_rest (l : List UInt8) (a : Nat) : (l.drop a).take (l.length - a) = l.drop a := List.take_of_length_le (by simp)
@[go_sem] theorem bs_toList (l : List UInt8) : (bs l).toList = l := by rw [ByteArray.toList_eq]; rfl
@[go_sem] theorem sub_z (n : Nat) : n - 0 = n := rfl
@[go_sem] theorem bs_same (l m : List UInt8) : (l == m) = decide (l = m) := by
  rw [Bool.eq_iff_iff, beq_iff_eq, decide_eq_true_eq]
end Go.Abs
namespace Go.Abs.S
attribute [local go_sem] lguard aopO aop aenv toAV tput aLoad aStore vcells aBin aNilI aUn aAlloc aBox aBuild aBSlice afill aConv isIntT aappZ aCap aArr aMM aMake aSlice bnd3 bnd aFldAddr aFld aIdxAddr aIdx aExt aLen aCopy aEq0 bAV aUb aapp aappQ agh acont List.getD_cons_zero List.getD_cons_succ List.set_cons_zero List.set_cons_succ List.getElem?_cons_zero List.getElem?_cons_succ List.length_cons List.length_nil List.map_cons List.map_nil ints_length if_true if_false Bool.false_eq_true true_and and_true eq_self ne_eq not_false_eq_true not_true_eq_false beq_self_eq_true Nat.zero_add Nat.add_zero Nat.mul_one Nat.zero_mul Int.toNat_natCast List.toList_toArray List.all_cons List.all_nil AV.one Value.oneCell' Bool.and_true Bool.true_and forall_const true_implies false_implies implies_true Option.map_some Option.map_none Option.isSome_some Option.isSome_none imp_self rdP_flat rdP_row splice_one ints_set ints_get List.append_nil List.cons_append List.nil_append List.getElem?_toArray List.drop_zero ints_drop ints_take List.take_of_length_le splice_all ints_one Option.some.injEq Option.getD_some List.length_replicate zArr List.map_replicate rep_ints splice_intsR List.length_set List.length_append List.flatten_replicate_singleton rep_slice rep_string rep_bool rep_iface List.replicate_zero if_pos if_neg List.mapM_cons List.mapM_nil Option.pure_def Option.bind_eq_bind Option.bind_some Bool.true_eq_false Bool.not_false Bool.not_true get_concat set_concat
open Go.Proofs
set_option linter.unusedVariables false
set_option linter.unusedSimpArgs false
set_option maxRecDepth 100000
set_option maxHeartbeats 4000000
theorem preB_iff (l p : List UInt8) (h : p.length ≤ l.length) : (l.take p.length = p) ↔ p.isPrefixOf l = true := by
  rw [List.isPrefixOf_iff_prefix, List.prefix_iff_eq_take]
  exact eq_comm
theorem lPre_p (l p : List UInt8) : PCall Tryz.prog glob 85 [.v (.string (bs l)), .v (.string (bs p))] (.v (.bool (p.isPrefixOf l))) := by
  refine PCall.of ctx.nr nrs (NR.v _) ?_
  refine lcall85 (by simp) 0 (Nat.le_refl _) ?_
  unfold lc85
  refine I1 tt ⟨?_⟩
  by_cases h : p.length ≤ l.length
  · have d1 : decide ((l.length : Int) ≥ p.length) = true := by rw [decide_eq_true_eq]; omega
    have q : decide (l.take p.length = p) = p.isPrefixOf l := by
      rw [Bool.eq_iff_iff, decide_eq_true_eq, preB_iff l p h]
    refine G1 F4 (an d1 (an q tt)) tt tt tt ⟨?_⟩
    refine R1 tt ⟨?_⟩
    exact end0 (NR.v _) rfl
  · have d1 : decide ((l.length : Int) ≥ p.length) = false := by rw [decide_eq_false_iff_not]; omega
    have q : p.isPrefixOf l = false := by
      rw [Bool.eq_false_iff, ne_eq, List.isPrefixOf_iff_prefix]
      exact fun h2 => h h2.length_le
    rw [q]
    refine G1 F4 (an d1 tt) tt tt tt ⟨?_⟩
    refine R1 tt ⟨?_⟩
    exact end0 (NR.v _) rfl
theorem pre_p (l p : List UInt8) : PCall Tryz.prog glob 59 [.v (.string (bs l)), .v (.string (bs p))] (.v (.bool (p.isPrefixOf l))) := by
  refine PCall.of ctx.nr nrs (NR.v _) ?_
  refine lcall59 (by simp) 0 (Nat.le_refl _) ?_
  unfold lc59
  refine I1 tt ⟨?_⟩
  refine G1 F1 tt (an (lPre_p l p).go tt) tt tt ⟨?_⟩
  refine R1 tt ⟨?_⟩
  exact end0 (NR.v _) rfl
end Go.Abs.S
namespace Go.Abs.S
open Go.Proofs
set_option maxRecDepth 100000
def impCodN : FuncId → Bool := fun f => f == 16 || f == 17 || f == 18 || f == 30 || f == 31 || f == 32 || f == 48 || f == 50 || f == 57 || f == 58 || f == 74 || f == 86 || f == 100 || f == 116
/-- escutcheon/page.digits -/
def lc60 : LCode := .seq (.reg []
  [o1 2 (.assign (.const (.int .i64 0)))]) (.seq (.reg []
  [o1 3 (.assign (.const (.int .i64 0)))]) (.seq (.block 0 (.loop (.seq (.seq (.reg []
  [o1 4 (.move (.tmp 3)),
  o1 5 (.move (.tmp 0)),
  o1 6 (.call ⟨.builtin .len, #[.tmp 5], #[9]⟩),
  o1 7 (.binOp .lss 3 (.tmp 4) (.tmp 6) 3),
  o1 8 (.move (.tmp 7)),
  o2 9 (.move (.tmp 0)) 8 true,
  o2 10 (.move (.tmp 3)) 8 true,
  o2 11 (.index 9 (.tmp 9) (.tmp 10)) 8 true,
  o2 12 (.binOp .geq 5 (.tmp 11) (.const (.int .u8 48)) 5) 8 true,
  o1 13 (.pick (.tmp 8) (.tmp 12) (.const (.bool false))),
  o1 14 (.move (.tmp 13)),
  o2 15 (.move (.tmp 0)) 14 true,
  o2 16 (.move (.tmp 3)) 14 true,
  o2 17 (.index 9 (.tmp 15) (.tmp 16)) 14 true,
  o2 18 (.binOp .leq 5 (.tmp 17) (.const (.int .u8 57)) 5) 14 true,
  o1 19 (.pick (.tmp 14) (.tmp 18) (.const (.bool false)))]) (.cond (.tmp 19) (.skip) (.exit 0))) (.block 1 (.reg []
  [o1 20 (.move (.tmp 3)),
  o1 21 (.binOp .add 3 (.tmp 20) (.const (.int .i64 1)) 3),
  o1 3 (.assign (.tmp 21))]))))) (.seq (.reg []
  [o1 22 (.move (.tmp 3)),
  o1 2 (.assign (.tmp 22))]) (.ret))))
def ms60_0 : List Nat := [1, 3, 4, 5, 6, 7, 8, 9, 10, 11, 12, 13, 14, 15, 16, 17, 18, 19, 20, 21]
theorem ls60 : Tryz.f60.body.map (strip Tryz.prog impCodN) = some lc60 := by kernel_rfl
theorem lcall60 : LC 60 23 lc60 [.tmp 2] := LC.of Tryz.func60 (by kernel_rfl) ls60 (by kernel_rfl) (by kernel_rfl)
/-- escutcheon/page.number -/
def lc33 : LCode := .seq (.reg []
  [o1 2 (.assign (.const (.int .i64 0)))]) (.seq (.reg []
  [o1 3 (.assign (.const (.int .i64 0)))]) (.seq (.seq (.reg []
  [o1 6 (.move (.tmp 0)),
  o1 7 (.call ⟨.value (.func 59), #[.tmp 6, .const (.string { data := #[45] })], #[9, 9]⟩)]) (.cond (.tmp 7) (.reg []
  [o1 3 (.assign (.const (.int .i64 1)))]) (.skip))) (.seq (.reg []
  [o1 8 (.move (.tmp 0)),
  o1 9 (.move (.tmp 3)),
  o1 10 (.slice 9 (.tmp 8) (some (.tmp 9)) none none),
  o1 11 (.call ⟨.value (.func 60), #[.tmp 10], #[9]⟩),
  o1 4 (.assign (.tmp 11))]) (.seq (.seq (.reg []
  [o1 12 (.move (.tmp 4)),
  o1 13 (.binOp .eql 3 (.tmp 12) (.const (.int .i64 0)) 3),
  o1 14 (.move (.tmp 13)),
  o2 15 (.move (.tmp 4)) 14 false,
  o2 16 (.binOp .gtr 3 (.tmp 15) (.const (.int .i64 1)) 3) 14 false,
  o2 17 (.move (.tmp 16)) 14 false,
  o2 18 (.move (.tmp 0)) 17 true,
  o2 19 (.move (.tmp 3)) 17 true,
  o2 20 (.index 9 (.tmp 18) (.tmp 19)) 17 true,
  o2 21 (.binOp .eql 5 (.tmp 20) (.const (.int .u8 48)) 5) 17 true,
  o2 22 (.pick (.tmp 17) (.tmp 21) (.const (.bool false))) 14 false,
  o1 23 (.pick (.tmp 14) (.const (.bool true)) (.tmp 22))]) (.cond (.tmp 23) (.reg []
  [o1 24 (.move (.tmp 4)),
  o1 25 (.call ⟨.builtin .min, #[.tmp 24, .const (.int .i64 1)], #[3, 3]⟩),
  o1 4 (.assign (.tmp 25))]) (.skip))) (.seq (.seq (.reg []
  [o1 26 (.move (.tmp 4)),
  o1 27 (.binOp .eql 3 (.tmp 26) (.const (.int .i64 0)) 3)]) (.cond (.tmp 27) (.seq (.reg []
  [o1 2 (.assign (.const (.int .i64 0)))]) (.ret)) (.skip))) (.seq (.reg []
  [o1 28 (.move (.tmp 3)),
  o1 29 (.move (.tmp 4)),
  o1 30 (.binOp .add 3 (.tmp 28) (.tmp 29) 3),
  o1 3 (.assign (.tmp 30))]) (.seq (.seq (.reg []
  [o1 31 (.move (.tmp 3)),
  o1 32 (.move (.tmp 0)),
  o1 33 (.call ⟨.builtin .len, #[.tmp 32], #[9]⟩),
  o1 34 (.binOp .lss 3 (.tmp 31) (.tmp 33) 3),
  o1 35 (.move (.tmp 34)),
  o2 36 (.move (.tmp 0)) 35 true,
  o2 37 (.move (.tmp 3)) 35 true,
  o2 38 (.index 9 (.tmp 36) (.tmp 37)) 35 true,
  o2 39 (.binOp .eql 5 (.tmp 38) (.const (.int .u8 46)) 5) 35 true,
  o1 40 (.pick (.tmp 35) (.tmp 39) (.const (.bool false)))]) (.cond (.tmp 40) (.seq (.seq (.reg []
  [o1 41 (.move (.tmp 0)),
  o1 42 (.move (.tmp 3)),
  o1 43 (.binOp .add 3 (.tmp 42) (.const (.int .i64 1)) 3),
  o1 44 (.slice 9 (.tmp 41) (some (.tmp 43)) none none),
  o1 45 (.call ⟨.value (.func 60), #[.tmp 44], #[9]⟩),
  o1 4 (.assign (.tmp 45))]) (.seq (.reg []
  [o1 46 (.move (.tmp 4)),
  o1 47 (.binOp .eql 3 (.tmp 46) (.const (.int .i64 0)) 3)]) (.cond (.tmp 47) (.seq (.reg []
  [o1 2 (.assign (.const (.int .i64 0)))]) (.ret)) (.skip)))) (.reg []
  [o1 48 (.move (.tmp 3)),
  o1 49 (.move (.tmp 4)),
  o1 50 (.binOp .add 3 (.const (.int .i64 1)) (.tmp 49) 3),
  o1 51 (.binOp .add 3 (.tmp 48) (.tmp 50) 3),
  o1 3 (.assign (.tmp 51))])) (.skip))) (.seq (.seq (.reg []
  [o1 52 (.move (.tmp 3)),
  o1 53 (.move (.tmp 0)),
  o1 54 (.call ⟨.builtin .len, #[.tmp 53], #[9]⟩),
  o1 55 (.binOp .lss 3 (.tmp 52) (.tmp 54) 3),
  o1 56 (.move (.tmp 55)),
  o2 57 (.move (.tmp 0)) 56 true,
  o2 58 (.move (.tmp 3)) 56 true,
  o2 59 (.index 9 (.tmp 57) (.tmp 58)) 56 true,
  o2 60 (.binOp .or 5 (.tmp 59) (.const (.int .u8 32)) 5) 56 true,
  o2 61 (.binOp .eql 5 (.tmp 60) (.const (.int .u8 101)) 5) 56 true,
  o1 62 (.pick (.tmp 56) (.tmp 61) (.const (.bool false)))]) (.cond (.tmp 62) (.seq (.reg []
  [o1 63 (.move (.tmp 3)),
  o1 64 (.binOp .add 3 (.tmp 63) (.const (.int .i64 1)) 3),
  o1 5 (.assign (.tmp 64))]) (.seq (.seq (.reg []
  [o1 65 (.move (.tmp 5)),
  o1 66 (.move (.tmp 0)),
  o1 67 (.call ⟨.builtin .len, #[.tmp 66], #[9]⟩),
  o1 68 (.binOp .lss 3 (.tmp 65) (.tmp 67) 3),
  o1 69 (.move (.tmp 68)),
  o2 70 (.move (.tmp 0)) 69 true,
  o2 71 (.move (.tmp 5)) 69 true,
  o2 72 (.index 9 (.tmp 70) (.tmp 71)) 69 true,
  o2 73 (.binOp .eql 5 (.tmp 72) (.const (.int .u8 43)) 5) 69 true,
  o2 74 (.move (.tmp 73)) 69 true,
  o2 75 (.move (.tmp 0)) 74 false,
  o2 76 (.move (.tmp 5)) 74 false,
  o2 77 (.index 9 (.tmp 75) (.tmp 76)) 74 false,
  o2 78 (.binOp .eql 5 (.tmp 77) (.const (.int .u8 45)) 5) 74 false,
  o2 79 (.pick (.tmp 74) (.const (.bool true)) (.tmp 78)) 69 true,
  o1 80 (.pick (.tmp 69) (.tmp 79) (.const (.bool false)))]) (.cond (.tmp 80) (.reg []
  [o1 81 (.move (.tmp 5)),
  o1 82 (.binOp .add 3 (.tmp 81) (.const (.int .i64 1)) 3),
  o1 5 (.assign (.tmp 82))]) (.skip))) (.seq (.seq (.reg []
  [o1 83 (.move (.tmp 0)),
  o1 84 (.move (.tmp 5)),
  o1 85 (.slice 9 (.tmp 83) (some (.tmp 84)) none none),
  o1 86 (.call ⟨.value (.func 60), #[.tmp 85], #[9]⟩),
  o1 4 (.assign (.tmp 86))]) (.seq (.reg []
  [o1 87 (.move (.tmp 4)),
  o1 88 (.binOp .eql 3 (.tmp 87) (.const (.int .i64 0)) 3)]) (.cond (.tmp 88) (.seq (.reg []
  [o1 2 (.assign (.const (.int .i64 0)))]) (.ret)) (.skip)))) (.reg []
  [o1 89 (.move (.tmp 5)),
  o1 90 (.move (.tmp 4)),
  o1 91 (.binOp .add 3 (.tmp 89) (.tmp 90) 3),
  o1 3 (.assign (.tmp 91))])))) (.skip))) (.seq (.reg []
  [o1 92 (.move (.tmp 3)),
  o1 2 (.assign (.tmp 92))]) (.ret))))))))))
def mj33_0 : List Nat := [1, 3, 6, 7]
def mj33_1 : List Nat := [1, 4, 6, 7, 8, 9, 10, 11, 12, 13, 14, 15, 16, 17, 18, 19, 20, 21, 22, 23, 24, 25]
def mj33_2 : List Nat := [1, 2, 6, 7, 8, 9, 10, 11, 12, 13, 14, 15, 16, 17, 18, 19, 20, 21, 22, 23, 24, 25, 26, 27]
def mj33_3 : List Nat := [1, 2, 3, 4, 6, 7, 8, 9, 10, 11, 12, 13, 14, 15, 16, 17, 18, 19, 20, 21, 22, 23, 24, 25, 26, 27, 28, 29, 30, 31, 32, 33, 34, 35, 36, 37, 38, 39, 40, 41, 42, 43, 44, 45, 46, 47, 48, 49, 50, 51]
def mj33_4 : List Nat := [1, 2, 6, 7, 8, 9, 10, 11, 12, 13, 14, 15, 16, 17, 18, 19, 20, 21, 22, 23, 24, 25, 26, 27, 28, 29, 30, 31, 32, 33, 34, 35, 36, 37, 38, 39, 40, 41, 42, 43, 44, 45, 46, 47]
def mj33_5 : List Nat := [0, 1, 2, 3, 4, 5, 6, 7, 8, 9, 10, 11, 12, 13, 14, 15, 16, 17, 18, 19, 20, 21, 22, 23, 24, 25, 26, 27, 28, 29, 30, 31, 32, 33, 34, 35, 36, 37, 38, 39, 40, 41, 42, 43, 44, 45, 46, 47, 48, 49, 50, 51, 52, 53, 54, 55, 56, 57, 58, 59, 60, 61, 62, 63, 64, 65, 66, 67, 68, 69, 70, 71, 72, 73, 74, 75, 76, 77, 78, 79, 80, 81, 82, 83, 84, 85, 86, 87, 88, 89, 90, 91]
def mj33_6 : List Nat := [1, 5, 6, 7, 8, 9, 10, 11, 12, 13, 14, 15, 16, 17, 18, 19, 20, 21, 22, 23, 24, 25, 26, 27, 28, 29, 30, 31, 32, 33, 34, 35, 36, 37, 38, 39, 40, 41, 42, 43, 44, 45, 46, 47, 48, 49, 50, 51, 52, 53, 54, 55, 56, 57, 58, 59, 60, 61, 62, 63, 64, 65, 66, 67, 68, 69, 70, 71, 72, 73, 74, 75, 76, 77, 78, 79, 80, 81, 82]
def mj33_7 : List Nat := [0, 1, 2, 6, 7, 8, 9, 10, 11, 12, 13, 14, 15, 16, 17, 18, 19, 20, 21, 22, 23, 24, 25, 26, 27, 28, 29, 30, 31, 32, 33, 34, 35, 36, 37, 38, 39, 40, 41, 42, 43, 44, 45, 46, 47, 48, 49, 50, 51, 52, 53, 54, 55, 56, 57, 58, 59, 60, 61, 62, 63, 64, 65, 66, 67, 68, 69, 70, 71, 72, 73, 74, 75, 76, 77, 78, 79, 80, 81, 82, 83, 84, 85, 86, 87, 88]
theorem ls33 : Tryz.f33.body.map (strip Tryz.prog impCodN) = some lc33 := by kernel_rfl
theorem lcall33 : LC 33 93 lc33 [.tmp 2] := LC.of Tryz.func33 (by kernel_rfl) ls33 (by kernel_rfl) (by kernel_rfl)
end Go.Abs.S
namespace Go.Abs.S
attribute [local go_sem] lguard aopO aop aenv toAV tput aLoad aStore vcells aBin aNilI aUn aAlloc aBox aBuild aBSlice afill aConv isIntT aappZ aCap aArr aMM aMake aSlice bnd3 bnd aFldAddr aFld aIdxAddr aIdx aExt aLen aCopy aEq0 bAV aUb aapp aappQ agh acont List.getD_cons_zero List.getD_cons_succ List.set_cons_zero List.set_cons_succ List.getElem?_cons_zero List.getElem?_cons_succ List.length_cons List.length_nil List.map_cons List.map_nil ints_length if_true if_false Bool.false_eq_true true_and and_true eq_self ne_eq not_false_eq_true not_true_eq_false beq_self_eq_true Nat.zero_add Nat.add_zero Nat.mul_one Nat.zero_mul Int.toNat_natCast List.toList_toArray List.all_cons List.all_nil AV.one Value.oneCell' Bool.and_true Bool.true_and forall_const true_implies false_implies implies_true Option.map_some Option.map_none Option.isSome_some Option.isSome_none imp_self rdP_flat rdP_row splice_one ints_set ints_get List.append_nil List.cons_append List.nil_append List.getElem?_toArray List.drop_zero ints_drop ints_take List.take_of_length_le splice_all ints_one Option.some.injEq Option.getD_some List.length_replicate zArr List.map_replicate rep_ints splice_intsR List.length_set List.length_append List.flatten_replicate_singleton rep_slice rep_string rep_bool rep_iface List.replicate_zero if_pos if_neg List.mapM_cons List.mapM_nil Option.pure_def Option.bind_eq_bind Option.bind_some Bool.true_eq_false Bool.not_false Bool.not_true get_concat set_concat
open Go.Proofs
set_option linter.unusedVariables false
set_option linter.unusedSimpArgs false
set_option maxRecDepth 100000
set_option maxHeartbeats 4000000
def isD (c : UInt8) : Bool := decide ((c.toNat : Int) ≥ 48) && decide ((c.toNat : Int) ≤ 57)
/-- How many digits stand at a row's beginning. -/
def dgL : List UInt8 → Nat
  | [] => 0
  | c :: l => if isD c = true then dgL l + 1 else 0
theorem dgL_le : ∀ l : List UInt8, dgL l ≤ l.length
  | [] => Nat.le_refl _
  | c :: l => by
    have := dgL_le l
    rw [dgL, List.length_cons]
    split <;> omega
theorem dgL_step (l : List UInt8) (k : Nat) (h : k < l.length) : dgL (l.drop k) = if isD (l.getD k 0) = true then dgL (l.drop (k + 1)) + 1 else 0 := by
  rw [List.drop_eq_getElem_cons h, dgL, List.getD_eq_getElem?_getD, List.getElem?_eq_getElem h]
  rfl
theorem pdig_p (l : List UInt8) (hl : l.length ≤ 9223372036854775807) : PCall Tryz.prog glob 60 [.v (.string (bs l))] (.v (.int .i64 (dgL l))) := by
  refine PCall.of ctx.nr nrs (NR.v _) ?_
  refine lcall60 (by simp) 0 (Nat.le_refl _) ?_
  unfold lc60
  refine I1 tt ⟨?_⟩
  obtain ⟨V, hV⟩ : ∃ V, dgL l = V := ⟨_, rfl⟩
  rw [hV]
  refine G1 F4 tt tt tt tt ⟨?_⟩
  refine lavc_loopM ms60_0 (fun m (k : Nat) => m + k = l.length ∧ k + dgL (l.drop k) = V) (fun k => [(3, .v (.int .i64 k))]) (fun _ => []) l.length 0 ⟨by omega, by rw [List.drop_zero]; omega⟩ ?_ rfl ?_
  · try unfold ms60_0
    refine A1 tt ⟨?_⟩
    rfl
  rintro m k ⟨hk, hi⟩
  try unfold ms60_0
  refine M1 tt ⟨?_⟩
  by_cases hkl : k < l.length
  · rw [dgL_step l k hkl] at hi
    obtain ⟨c, hc⟩ : ∃ c, l.getD k 0 = c := ⟨_, rfl⟩
    rw [hc] at hi
    have d1 : decide ((k : Int) < l.length) = true := by rw [decide_eq_true_eq]; omega
    have e3 := i64n ((k : Int) + 1) (k + 1) (by omega) (by omega)
    obtain ⟨a, ha⟩ : ∃ a, decide ((c.toNat : Int) ≥ 48) = a := ⟨_, rfl⟩
    obtain ⟨b, hb⟩ : ∃ b, decide ((c.toNat : Int) ≤ 57) = b := ⟨_, rfl⟩
    have hD : isD c = (a && b) := by rw [← ha, ← hb]; rfl
    rw [hD] at hi
    cases a <;> cases b
    · rw [if_neg (by decide)] at hi
      refine G1 F4 (an d1 (an hc (an ha (an hb tt)))) tt tt tt ⟨?_⟩
      refine R1 tt ⟨?_⟩
      exact end0 (NR.v _) (by rw [← hi]; rfl)
    · rw [if_neg (by decide)] at hi
      refine G1 F4 (an d1 (an hc (an ha (an hb tt)))) tt tt tt ⟨?_⟩
      refine R1 tt ⟨?_⟩
      exact end0 (NR.v _) (by rw [← hi]; rfl)
    · rw [if_neg (by decide)] at hi
      refine G1 F4 (an d1 (an hc (an ha (an hb tt)))) tt tt tt ⟨?_⟩
      refine R1 tt ⟨?_⟩
      exact end0 (NR.v _) (by rw [← hi]; rfl)
    · rw [if_pos (by decide)] at hi
      refine G1 F4 (an d1 (an hc (an ha (an hb (an e3 tt))))) tt tt tt ⟨?_⟩
      refine ⟨m - 1, k + 1, by omega, ⟨by omega, by omega⟩, ?_, (by first | rfl | trivial)⟩
      try unfold ms60_0
      exact A0 tt
  · have hk2 : k = l.length := by omega
    rw [hk2, List.drop_length, dgL] at hi
    have d1 : decide ((k : Int) < l.length) = false := by rw [decide_eq_false_iff_not]; omega
    refine G1 F4 (an d1 tt) tt tt tt ⟨?_⟩
    refine R1 tt ⟨?_⟩
    exact end0 (NR.v _) (by rw [← hi, hk2]; rfl)
/-- The sign's, the whole part's length; the places behind the broken part and behind the power. -/
def sgL (l : List UInt8) : Nat := if [45].isPrefixOf l = true then 1 else 0
def intL (l : List UInt8) (at' : Nat) : Nat := if 1 < dgL (l.drop at') ∧ (l.getD at' 0).toNat = 48 then 1 else dgL (l.drop at')
def fracL (l : List UInt8) (a : Nat) : Option Nat := if a < l.length ∧ (l.getD a 0).toNat = 46 then (if dgL (l.drop (a + 1)) = 0 then none else some (a + (1 + dgL (l.drop (a + 1))))) else some a
def powS (l : List UInt8) (k : Nat) : Nat := if k < l.length ∧ ((l.getD k 0).toNat = 43 ∨ (l.getD k 0).toNat = 45) then k + 1 else k
def powL (l : List UInt8) (a : Nat) : Option Nat := if a < l.length ∧ ((l.getD a 0).toNat = 101 ∨ (l.getD a 0).toNat = 69) then (if dgL (l.drop (powS l (a + 1))) = 0 then none else some (powS l (a + 1) + dgL (l.drop (powS l (a + 1))))) else some a
/-- How many bytes the number at a row's beginning has; 0: there is none. -/
def nuL (l : List UInt8) : Nat := if intL l (sgL l) = 0 then 0 else ((fracL l (sgL l + intL l (sgL l))).bind (powL l)).getD 0
theorem sgL_le (l : List UInt8) : sgL l ≤ l.length := by
  unfold sgL
  split
  · rename_i h
    rw [List.isPrefixOf_iff_prefix] at h
    exact h.length_le
  · exact Nat.zero_le _
theorem dgd_le (l : List UInt8) (a : Nat) (h : a ≤ l.length) : a + dgL (l.drop a) ≤ l.length := by
  have := dgL_le (l.drop a)
  rw [List.length_drop] at this
  omega
theorem intL_le (l : List UInt8) (a : Nat) (h : a ≤ l.length) : a + intL l a ≤ l.length := by
  have := dgd_le l a h
  unfold intL
  split <;> omega
theorem powS_le (l : List UInt8) (k : Nat) (h : k ≤ l.length) : powS l k ≤ l.length := by
  unfold powS
  split <;> omega
theorem fracL_le (l : List UInt8) (a b : Nat) (h : a ≤ l.length) (hb : fracL l a = some b) : b ≤ l.length := by
  unfold fracL at hb
  split at hb
  · split at hb
    · cases hb
    · have := dgd_le l (a + 1) (by omega)
      injection hb
      omega
  · injection hb
    omega
theorem powL_le (l : List UInt8) (a b : Nat) (h : a ≤ l.length) (hb : powL l a = some b) : b ≤ l.length := by
  unfold powL at hb
  split at hb
  · split at hb
    · cases hb
    · have := dgd_le l _ (powS_le l (a + 1) (by omega))
      injection hb
      omega
  · injection hb
    omega
theorem or32 : ∀ c : Nat, c < 256 → (ibits .or .u8 (c : Int) 32 == 101) = (decide (c = 101) || decide (c = 69)) := by decide +kernel
theorem pnum_p (l : List UInt8) (hl : l.length ≤ 9223372036854775000) : PCall Tryz.prog glob 33 [.v (.string (bs l))] (.v (.int .i64 (nuL l))) := by
  refine PCall.of ctx.nr nrs (NR.v _) ?_
  refine lcall33 (by simp) 0 (Nat.le_refl _) ?_
  unfold lc33
  refine I1 tt ⟨?_⟩
  have hp : PCall Tryz.prog glob 59 [.v (.string (bs l)), .v (.string ⟨#[45]⟩)] (.v (.bool ([45].isPrefixOf l))) := pre_p l [45]
  obtain ⟨sg, hsg⟩ : ∃ b, ([45] : List UInt8).isPrefixOf l = b := ⟨_, rfl⟩
  have hs2 := sgL_le l
  have hs3 : sgL l = if sg = true then 1 else 0 := by rw [← hsg]; rfl
  rw [hsg] at hp
  refine G1 F1 tt (an hp.go tt) tt tt ⟨?_⟩
  refine lavc_join mj33_0 (fun (_ : Unit) => True) (fun _ => [(3, .v (.int .i64 (sgL l)))]) (fun _ => []) ?_ ?_
  · cases sg
    · rw [hs3]
      refine G1 F4 tt tt tt tt ⟨?_⟩
      refine ⟨(), trivial, ?_, (by first | rfl | trivial)⟩
      try unfold mj33_0
      refine A1 tt ⟨?_⟩
      rfl
    · rw [hs3]
      refine G1 F4 tt tt tt tt ⟨?_⟩
      refine ⟨(), trivial, ?_, (by first | rfl | trivial)⟩
      try unfold mj33_0
      refine A1 tt ⟨?_⟩
      rfl
  intro _ _
  try unfold mj33_0
  refine M1 tt ⟨?_⟩
  unfold nuL
  obtain ⟨a, ha⟩ : ∃ a, sgL l = a := ⟨_, rfl⟩
  rw [ha] at hs2 ⊢
  have dp : ∀ k, PCall Tryz.prog glob 60 [.v (.string (bs (l.drop k)))] (.v (.int .i64 (dgL (l.drop k)))) := fun k => pdig_p _ (by rw [List.length_drop]; omega)
  have i1 := intL_le l a hs2
  have i2 := dgd_le l a hs2
  have hal : ((a : Nat) : Int) ≤ l.length := by omega
  obtain ⟨n, hn⟩ : ∃ n, dgL (l.drop a) = n := ⟨_, rfl⟩
  rw [hn] at i2
  have da : PCall Tryz.prog glob 60 [.v (.string (bs (l.drop a)))] (.v (.int .i64 n)) := by rw [← hn]; exact dp a
  have hi : intL l a = if 1 < n ∧ (l.getD a 0).toNat = 48 then 1 else n := by rw [← hn]; rfl
  obtain ⟨c, hc⟩ : ∃ c, l.getD a 0 = c := ⟨_, rfl⟩
  rw [hc] at hi
  refine lavc_seq (lavc_reg ?_)
  refine G1 F6 tt (an da.go tt) tt tt ⟨?_⟩
  refine lavc_joinS (mj33_1 ++ [12, 13, 14, 15, 16, 17, 18, 19, 20, 21, 22, 23]) (fun (_ : Unit) => True) (fun _ => [(3, .v (.int .i64 a)), (4, .v (.int .i64 (intL l a)))]) (fun _ => []) ?_ ?_
  --33_1 (fun (_ : Unit) => True) (fun _ => [(3, .v (.int .i64 a)), (4, .v (.int .i64 (intL l a)))]) (fun _ => []) ?_ ?_
  · by_cases h0 : n = 0
    · subst h0
      rw [hi, if_neg (by omega)]
      refine G1 F4 tt tt tt tt ⟨?_⟩
      refine ⟨(), trivial, ?_, (by first | rfl | trivial)⟩
      refine ALe.mk ?_
      simp only [mj33_1, putAll, blank, List.foldl_cons, List.foldl_nil, List.set_cons_succ, List.set_cons_zero, List.cons_append, List.nil_append, ALe0, true_or, or_true, and_true, true_and, eq_self, reduceCtorEq, false_or, List.foldl_append]
      try rfl
    by_cases h1 : n = 1
    · subst h1
      rw [hi, if_neg (by omega)]
      refine G1 F4 tt tt tt tt ⟨?_⟩
      refine ⟨(), trivial, ?_, (by first | rfl | trivial)⟩
      refine ALe.mk ?_
      simp only [mj33_1, putAll, blank, List.foldl_cons, List.foldl_nil, List.set_cons_succ, List.set_cons_zero, List.cons_append, List.nil_append, ALe0, true_or, or_true, and_true, true_and, eq_self, reduceCtorEq, false_or, List.foldl_append]
      try rfl
    have q0 : ((n : Int) == 0) = false := by rw [beq_eq_false_iff_ne, ne_eq]; omega
    have d1 : decide ((n : Int) > 1) = true := by rw [decide_eq_true_eq]; omega
    by_cases h48 : c.toNat = 48
    · rw [hi, if_pos ⟨by omega, h48⟩]
      have q1 : (((c.toNat : Nat) : Int) == 48) = true := by rw [h48]; rfl
      have q2 : min (n : Int) 1 = 1 := by omega
      refine G1 F4 (an q0 (an d1 (an hc (an q1 (an q2 tt))))) tt tt tt ⟨?_⟩
      refine ⟨(), trivial, ?_, (by first | rfl | trivial)⟩
      refine ALe.mk ?_
      simp only [mj33_1, putAll, blank, List.foldl_cons, List.foldl_nil, List.set_cons_succ, List.set_cons_zero, List.cons_append, List.nil_append, ALe0, true_or, or_true, and_true, true_and, eq_self, reduceCtorEq, false_or, List.foldl_append]
      try rfl
    · rw [hi, if_neg (fun h => h48 h.2)]
      have q1 : (((c.toNat : Int) : Int) == 48) = false := by rw [beq_eq_false_iff_ne, ne_eq]; omega
      refine G1 F4 (an q0 (an d1 (an hc (an q1 tt)))) tt tt tt ⟨?_⟩
      refine ⟨(), trivial, ?_, (by first | rfl | trivial)⟩
      refine ALe.mk ?_
      simp only [mj33_1, putAll, blank, List.foldl_cons, List.foldl_nil, List.set_cons_succ, List.set_cons_zero, List.cons_append, List.nil_append, ALe0, true_or, or_true, and_true, true_and, eq_self, reduceCtorEq, false_or, List.foldl_append]
      try rfl
  intro _ _
  try unfold mj33_1
  refine M1 tt ⟨?_⟩
  obtain ⟨n, hn⟩ : ∃ n, intL l a = n := ⟨_, rfl⟩
  rw [hn] at i1 ⊢
  by_cases h0 : n = 0
  · subst h0
    rw [if_pos rfl]
    refine G1 F4 tt tt tt tt ⟨?_⟩
    refine R1 tt ⟨?_⟩
    exact end0 (NR.v _) rfl
  rw [if_neg h0]
  have q0 : ((n : Int) == 0) = false := by rw [beq_eq_false_iff_ne, ne_eq]; omega
  have e3 := i64n ((a : Int) + n) (a + n) (by omega) (by omega)
  obtain ⟨b, hb⟩ : ∃ b, a + n = b := ⟨_, rfl⟩
  rw [hb] at e3 i1 ⊢
  refine lavc_seq ?_
  refine lavc_seq (lavc_reg ?_)
  refine G1 F7 (an q0 tt) tt tt tt ⟨?_⟩
  refine lavc_seq (lavc_reg ?_)
  refine G1 F6 (an e3 tt) tt tt tt ⟨?_⟩
  refine lavc_joinS (mj33_3 ++ [31, 32, 33, 34, 35, 36, 37, 38, 39, 40]) (fun (x : Nat) => fracL l b = some x) (fun x => [(3, .v (.int .i64 x))]) (fun _ => []) ?_ ?_
  · obtain ⟨c, hc⟩ : ∃ c, l.getD b 0 = c := ⟨_, rfl⟩
    have hf : fracL l b = if b < l.length ∧ c.toNat = 46 then (if dgL (l.drop (b + 1)) = 0 then none else some (b + (1 + dgL (l.drop (b + 1))))) else some b := by rw [← hc]; rfl
    by_cases hbl : b < l.length
    · have d1 : decide ((b : Int) < l.length) = true := by rw [decide_eq_true_eq]; omega
      by_cases h46 : c.toNat = 46
      · rw [if_pos ⟨hbl, h46⟩] at hf
        have q1 : (((c.toNat : Nat) : Int) == 46) = true := by rw [h46]; rfl
        have i4 := dgd_le l (b + 1) (by omega)
        obtain ⟨n2, hn2⟩ : ∃ n, dgL (l.drop (b + 1)) = n := ⟨_, rfl⟩
        rw [hn2] at hf i4
        have da : PCall Tryz.prog glob 60 [.v (.string (bs (l.drop (b + 1))))] (.v (.int .i64 n2)) := by rw [← hn2]; exact dp _
        have e5 := i64n ((b : Int) + 1) (b + 1) (by omega) (by omega)
        by_cases h20 : n2 = 0
        · rw [if_pos h20] at hf
          subst h20
          rw [hf]
          refine G1 F4 (an d1 (an hc (an q1 (an e5 tt)))) (an da.go tt) tt tt ⟨?_⟩
          refine R1 tt ⟨?_⟩
          exact end0 (NR.v _) rfl
        · rw [if_neg h20] at hf
          have q2 : ((n2 : Int) == 0) = false := by rw [beq_eq_false_iff_ne, ne_eq]; omega
          have e6 := i64n ((1 : Int) + n2) (1 + n2) (by omega) (by omega)
          have e7 := i64n ((b : Int) + ((1 + n2 : Nat) : Int)) (b + (1 + n2)) (by omega) (by omega)
          refine G1 F4 (an d1 (an hc (an q1 (an q2 (an e5 (an e6 (an e7 tt))))))) (an da.go tt) tt tt ⟨?_⟩
          refine ⟨_, hf, ?_, (by first | rfl | trivial)⟩
          refine ALe.mk ?_
          simp only [mj33_3, putAll, blank, List.foldl_cons, List.foldl_nil, List.set_cons_succ, List.set_cons_zero, List.cons_append, List.nil_append, ALe0, true_or, or_true, and_true, true_and, eq_self, reduceCtorEq, false_or, List.foldl_append]
          try rfl
      · rw [if_neg (fun h => h46 h.2)] at hf
        have q1 : (((c.toNat : Int) : Int) == 46) = false := by rw [beq_eq_false_iff_ne, ne_eq]; omega
        refine G1 F4 (an d1 (an hc (an q1 tt))) tt tt tt ⟨?_⟩
        refine ⟨_, hf, ?_, (by first | rfl | trivial)⟩
        refine ALe.mk ?_
        simp only [mj33_3, putAll, blank, List.foldl_cons, List.foldl_nil, List.set_cons_succ, List.set_cons_zero, List.cons_append, List.nil_append, ALe0, true_or, or_true, and_true, true_and, eq_self, reduceCtorEq, false_or, List.foldl_append]
        try rfl
    · rw [if_neg (fun h => hbl h.1)] at hf
      have d1 : decide ((b : Int) < l.length) = false := by rw [decide_eq_false_iff_not]; omega
      refine G1 F4 (an d1 tt) tt tt tt ⟨?_⟩
      refine ⟨_, hf, ?_, (by first | rfl | trivial)⟩
      refine ALe.mk ?_
      simp only [mj33_3, putAll, blank, List.foldl_cons, List.foldl_nil, List.set_cons_succ, List.set_cons_zero, List.cons_append, List.nil_append, ALe0, true_or, or_true, and_true, true_and, eq_self, reduceCtorEq, false_or, List.foldl_append]
      try rfl
  intro b2 hb2
  have i3 := fracL_le l b b2 (by omega) hb2
  rw [hb2]
  try unfold mj33_3
  refine M1 tt ⟨?_⟩
  show lavc _ _ _ _ _ _
  obtain ⟨c, hc⟩ : ∃ c, l.getD b2 0 = c := ⟨_, rfl⟩
  have hf : powL l b2 = if b2 < l.length ∧ (c.toNat = 101 ∨ c.toNat = 69) then (if dgL (l.drop (powS l (b2 + 1))) = 0 then none else some (powS l (b2 + 1) + dgL (l.drop (powS l (b2 + 1))))) else some b2 := by rw [← hc]; rfl
  have o32 := or32 c.toNat c.toNat_lt
  rw [Option.bind_some]
  by_cases hbl : b2 < l.length
  · have d1 : decide ((b2 : Int) < l.length) = true := by rw [decide_eq_true_eq]; omega
    by_cases h101 : c.toNat = 101 ∨ c.toNat = 69
    · rw [if_pos ⟨hbl, h101⟩] at hf
      have q1 : (ibits .or .u8 (c.toNat : Int) 32 == 101) = true := by rw [o32]; rcases h101 with h | h <;> rw [h] <;> rfl
      have e5 := i64n ((b2 : Int) + 1) (b2 + 1) (by omega) (by omega)
      obtain ⟨k, hk⟩ : ∃ k, b2 + 1 = k := ⟨_, rfl⟩
      rw [hk] at hf e5
      have hkl : k ≤ l.length := by omega
      have i4 := dgd_le l (powS l k) (powS_le l k hkl)
      obtain ⟨c2, hc2⟩ : ∃ c, l.getD k 0 = c := ⟨_, rfl⟩
      have hps : powS l k = if k < l.length ∧ (c2.toNat = 43 ∨ c2.toNat = 45) then k + 1 else k := by rw [← hc2]; rfl
      obtain ⟨k2, hk2⟩ : ∃ x, powS l k = x := ⟨_, rfl⟩
      rw [hk2] at hf i4 hps
      obtain ⟨n2, hn2⟩ : ∃ n, dgL (l.drop k2) = n := ⟨_, rfl⟩
      have da : PCall Tryz.prog glob 60 [.v (.string (bs (l.drop k2)))] (.v (.int .i64 n2)) := by rw [← hn2]; exact dp _
      rw [hn2] at hf i4
      have e6 := i64n ((k2 : Int) + n2) (k2 + n2) (by omega) (by omega)
      have e7 := i64n ((k : Int) + 1) (k + 1) (by omega) (by omega)
      by_cases hkl2 : k < l.length
      · have d2 : decide ((k : Int) < l.length) = true := by rw [decide_eq_true_eq]; omega
        by_cases h43 : c2.toNat = 43
        · rw [if_pos ⟨hkl2, .inl h43⟩] at hps
          rw [← hps] at e7
          have q2 : (((c2.toNat : Nat) : Int) == 43) = true := by rw [h43]; rfl
          by_cases h20 : n2 = 0
          · rw [if_pos h20] at hf
            subst h20
            rw [hf]
            refine G1 F4 (an d1 (an hc (an q1 (an e5 (an d2 (an hc2 (an q2 (an e7 tt)))))))) (an da.go tt) tt tt ⟨?_⟩
            refine R1 tt ⟨?_⟩
            exact end0 (NR.v _) rfl
          · rw [if_neg h20] at hf
            rw [hf]
            have q3 : ((n2 : Int) == 0) = false := by rw [beq_eq_false_iff_ne, ne_eq]; omega
            refine G1 F4 (an d1 (an hc (an q1 (an e5 (an d2 (an hc2 (an q2 (an e7 (an q3 (an e6 tt)))))))))) (an da.go tt) tt tt ⟨?_⟩
            refine R1 tt ⟨?_⟩
            exact end0 (NR.v _) rfl
        have q2 : (((c2.toNat : Int) : Int) == 43) = false := by rw [beq_eq_false_iff_ne, ne_eq]; omega
        by_cases h45 : c2.toNat = 45
        · rw [if_pos ⟨hkl2, .inr h45⟩] at hps
          rw [← hps] at e7
          have q4 : (((c2.toNat : Nat) : Int) == 45) = true := by rw [h45]; rfl
          by_cases h20 : n2 = 0
          · rw [if_pos h20] at hf
            subst h20
            rw [hf]
            refine G1 F4 (an d1 (an hc (an q1 (an e5 (an d2 (an hc2 (an q2 (an q4 (an e7 tt))))))))) (an da.go tt) tt tt ⟨?_⟩
            refine R1 tt ⟨?_⟩
            exact end0 (NR.v _) rfl
          · rw [if_neg h20] at hf
            rw [hf]
            have q3 : ((n2 : Int) == 0) = false := by rw [beq_eq_false_iff_ne, ne_eq]; omega
            refine G1 F4 (an d1 (an hc (an q1 (an e5 (an d2 (an hc2 (an q2 (an q4 (an e7 (an q3 (an e6 tt))))))))))) (an da.go tt) tt tt ⟨?_⟩
            refine R1 tt ⟨?_⟩
            exact end0 (NR.v _) rfl
        · rw [if_neg (fun h => by omega)] at hps
          subst hps
          have q4 : (((c2.toNat : Int) : Int) == 45) = false := by rw [beq_eq_false_iff_ne, ne_eq]; omega
          by_cases h20 : n2 = 0
          · rw [if_pos h20] at hf
            subst h20
            rw [hf]
            refine G1 F4 (an d1 (an hc (an q1 (an e5 (an d2 (an hc2 (an q2 (an q4 tt)))))))) (an da.go tt) tt tt ⟨?_⟩
            refine R1 tt ⟨?_⟩
            exact end0 (NR.v _) rfl
          · rw [if_neg h20] at hf
            rw [hf]
            have q3 : ((n2 : Int) == 0) = false := by rw [beq_eq_false_iff_ne, ne_eq]; omega
            refine G1 F4 (an d1 (an hc (an q1 (an e5 (an d2 (an hc2 (an q2 (an q4 (an q3 (an e6 tt)))))))))) (an da.go tt) tt tt ⟨?_⟩
            refine R1 tt ⟨?_⟩
            exact end0 (NR.v _) rfl
      · rw [if_neg (fun h => hkl2 h.1)] at hps
        subst hps
        have d2 : decide ((k2 : Int) < l.length) = false := by rw [decide_eq_false_iff_not]; omega
        have h20 : n2 = 0 := by
          rw [← hn2, List.drop_of_length_le (by omega)]
          rfl
        rw [if_pos h20] at hf
        subst h20
        rw [hf]
        refine G1 F4 (an d1 (an hc (an q1 (an e5 (an d2 tt))))) (an da.go tt) tt tt ⟨?_⟩
        refine R1 tt ⟨?_⟩
        exact end0 (NR.v _) rfl
    · rw [if_neg (fun h => h101 h.2)] at hf
      have q1 : (ibits .or .u8 (c.toNat : Int) 32 == 101) = false := by
        rw [o32, decide_eq_false (fun h => h101 (.inl h)), decide_eq_false (fun h => h101 (.inr h))]
        rfl
      rw [hf]
      refine G1 F4 (an d1 (an hc (an q1 tt))) tt tt tt ⟨?_⟩
      refine R1 tt ⟨?_⟩
      exact end0 (NR.v _) rfl
  · rw [if_neg (fun h => hbl h.1)] at hf
    have d1 : decide ((b2 : Int) < l.length) = false := by rw [decide_eq_false_iff_not]; omega
    rw [hf]
    refine G1 F4 (an d1 tt) tt tt tt ⟨?_⟩
    refine R1 tt ⟨?_⟩
    exact end0 (NR.v _) rfl
end Go.Abs.S
namespace Go.Abs.S
open Go.Proofs
set_option linter.unusedVariables false
set_option linter.unusedSimpArgs false
set_option maxRecDepth 100000
set_option maxHeartbeats 4000000
abbrev vA (v : Val) : AV := .agg v.cells
theorem NR.vA (v : Val) : NR (vA v) := NR.agg v.nr
/-- Texts and rows that the walks bear. -/
def small1 : Val → Prop
  | .mk k t ns vs => t.size ≤ 9223372036854775807 ∧ ns.length ≤ 1000 ∧ (∀ s ∈ ns, s.size ≤ 9223372036854775807) ∧ vs.length ≤ 1000
mutual
def small : Val → Prop
  | .mk k t ns vs => small1 (.mk k t ns vs) ∧ smallL vs
def smallL : List Val → Prop
  | [] => True
  | v :: l => small v ∧ smallL l
end
theorem smallL_iff : ∀ {l : List Val}, smallL l ↔ ∀ v ∈ l, small v
  | [] => ⟨fun _ _ h => absurd h List.not_mem_nil, fun _ => trivial⟩
  | v :: l => by rw [smallL, List.forall_mem_cons, smallL_iff]
theorem small.at {k : Int} {t : ByteArray} {ns : List ByteArray} {vs : List Val} (h : small (.mk k t ns vs)) : small1 (.mk k t ns vs) ∧ ∀ v ∈ vs, small v := by
  rw [small, smallL_iff] at h
  exact h
/-- Whether a value itself may be. -/
def formV : Val → Bool
  | .mk k t ns vs =>
    if k = 0 ∨ k = 1 ∨ k = 2 then decide (t.size = 0) && decide (ns.length = 0) && decide (vs.length = 0)
    else if k = 3 then decide (ns.length = 0) && decide (vs.length = 0) && !decide (t.size = 0) && decide (t.size ≤ 40) && decide (nuL (bl t) = t.size)
    else if k = 4 then decide (ns.length = 0) && decide (vs.length = 0) && validP t
    else if k = 5 then decide (t.size = 0) && decide (ns.length = 0)
    else if k = 6 then decide (t.size = 0) && decide (ns.length = vs.length) && ns.all validP
    else false
mutual
/-- What is wrong with a value at a depth. -/
def goodV : Val → Int → Int
  | .mk k t ns vs, d => if 8 < d then 9 else if formV (.mk k t ns vs) = false then 2 else if 64 < vs.length then 11 else if twiceP ns = true then 10 else goodL vs (d + 1)
def goodL : List Val → Int → Int
  | [], _ => 0
  | v :: l, d => if goodV v d = 0 then goodL l d else goodV v d
end
theorem goodL_step (l : List Val) (k : Nat) (h : k < l.length) (d : Int) : goodL (l.drop k) d = if goodV (l.getD k default) d = 0 then goodL (l.drop (k + 1)) d else goodV (l.getD k default) d := by
  rw [List.drop_eq_getElem_cons h, goodL, List.getD_eq_getElem?_getD, List.getElem?_eq_getElem h]
  rfl
theorem getD_mem (l : List Val) (k : Nat) (h : k < l.length) : l.getD k default ∈ l := by
  rw [List.getD_eq_getElem?_getD, List.getElem?_eq_getElem h]
  exact List.getElem_mem h
end Go.Abs.S
namespace Go.Abs.S
attribute [local go_sem] lguard aopO aop aenv toAV tput aLoad aStore vcells aBin aNilI aUn aAlloc aBox aBuild aBSlice afill aConv isIntT aappZ aCap aArr aMM aMake aSlice bnd3 bnd aFldAddr aFld aIdxAddr aIdx aExt aLen aCopy aEq0 bAV aUb aapp aappQ agh acont List.getD_cons_zero List.getD_cons_succ List.set_cons_zero List.set_cons_succ List.getElem?_cons_zero List.getElem?_cons_succ List.length_cons List.length_nil List.map_cons List.map_nil ints_length if_true if_false Bool.false_eq_true true_and and_true eq_self ne_eq not_false_eq_true not_true_eq_false beq_self_eq_true Nat.zero_add Nat.add_zero Nat.mul_one Nat.zero_mul Int.toNat_natCast List.toList_toArray List.all_cons List.all_nil AV.one Value.oneCell' Bool.and_true Bool.true_and forall_const true_implies false_implies implies_true Option.map_some Option.map_none Option.isSome_some Option.isSome_none imp_self rdP_flat rdP_row splice_one ints_set ints_get List.append_nil List.cons_append List.nil_append List.getElem?_toArray List.drop_zero ints_drop ints_take List.take_of_length_le splice_all ints_one Option.some.injEq Option.getD_some List.length_replicate zArr List.map_replicate rep_ints splice_intsR List.length_set List.length_append List.flatten_replicate_singleton rep_slice rep_string rep_bool rep_iface List.replicate_zero if_pos if_neg List.mapM_cons List.mapM_nil Option.pure_def Option.bind_eq_bind Option.bind_some Bool.true_eq_false Bool.not_false Bool.not_true get_concat set_concat
open Go.Proofs
set_option linter.unusedVariables false
set_option linter.unusedSimpArgs false
set_option maxRecDepth 100000
set_option maxHeartbeats 4000000
theorem size0 (t : ByteArray) : (t.toList == (⟨#[]⟩ : ByteArray).toList) = decide (t.size = 0) := by
  rw [stA_beq, Bool.eq_iff_iff, decide_eq_true_eq, decide_eq_true_eq]
  constructor
  · rintro rfl
    rfl
  · intro h
    cases t
    rename_i a
    have : a = #[] := Array.eq_empty_of_size_eq_zero h
    rw [this]
theorem intz (n : Nat) : (((n : Nat) : Int) == 0) = decide (n = 0) := by
  rw [Bool.eq_iff_iff, beq_iff_eq, decide_eq_true_eq]
  omega
theorem intq (n m : Nat) : (((n : Nat) : Int) == ((m : Nat) : Int)) = decide (n = m) := by
  rw [Bool.eq_iff_iff, beq_iff_eq, decide_eq_true_eq]
  omega
theorem intl (n m : Nat) : decide (((n : Nat) : Int) ≤ ((m : Nat) : Int)) = decide (n ≤ m) := by
  rw [Bool.eq_iff_iff, decide_eq_true_eq, decide_eq_true_eq]
  omega
theorem form_p (v : Val) (h : small1 v) : PCall Tryz.prog glob 65 [vA v] (.v (.bool (formV v))) := by
  refine PCall.of ctx.nr (List.forall_mem_cons.2 ⟨NR.vA v, fun _ h => absurd h List.not_mem_nil⟩) (NR.v _) ?_
  refine lcall65 (by simp) 0 (Nat.le_refl _) ?_
  obtain ⟨k, t, ns, vs⟩ := v
  obtain ⟨ht, hn, hz, hv⟩ := h
  unfold vA formV
  rw [Val.cells]
  unfold lc65
  refine I1 tt ⟨?_⟩
  obtain ⟨bt, hbt⟩ : ∃ b, decide (t.size = 0) = b := ⟨_, rfl⟩
  obtain ⟨bn, hbn⟩ : ∃ b, decide (ns.length = 0) = b := ⟨_, rfl⟩
  obtain ⟨bv, hbv⟩ : ∃ b, decide (vs.length = 0) = b := ⟨_, rfl⟩
  have zt := size0 t
  have zn := intz ns.length
  have zv := intz vs.length
  rw [hbt] at zt ⊢
  rw [hbn] at zn ⊢
  rw [hbv] at zv ⊢
  by_cases h0 : k = 0
  · subst h0
    rw [if_pos (by simp)]
    cases bt <;> cases bn <;> cases bv
    all_goals
      refine G1 F4 (an zt (an zn (an zv tt))) tt tt tt ⟨?_⟩
      refine R1 tt ⟨?_⟩
      exact end0 (NR.v _) rfl
  by_cases h1 : k = 1
  · subst h1
    rw [if_pos (by simp)]
    cases bt <;> cases bn <;> cases bv
    all_goals
      refine G1 F4 (an zt (an zn (an zv tt))) tt tt tt ⟨?_⟩
      refine R1 tt ⟨?_⟩
      exact end0 (NR.v _) rfl
  by_cases h2 : k = 2
  · subst h2
    rw [if_pos (by simp)]
    cases bt <;> cases bn <;> cases bv
    all_goals
      refine G1 F4 (an zt (an zn (an zv tt))) tt tt tt ⟨?_⟩
      refine R1 tt ⟨?_⟩
      exact end0 (NR.v _) rfl
  rw [if_neg (by omega)]
  by_cases h3 : k = 3
  · subst h3
    rw [if_pos rfl]
    have np : t.size ≤ 40 → PCall Tryz.prog glob 33 [stA t] (ivC (nuL (bl t))) := fun h => pnum_p (bl t) (by have e : (bl t).length = t.size := Array.length_toList; omega)
    obtain ⟨b40, h40⟩ : ∃ b, decide (t.size ≤ 40) = b := ⟨_, rfl⟩
    obtain ⟨bq, hq⟩ : ∃ b, decide (nuL (bl t) = t.size) = b := ⟨_, rfl⟩
    have z40 := intl t.size 40
    have zq := intq (nuL (bl t)) t.size
    rw [h40] at z40 ⊢
    rw [hq] at zq ⊢
    cases b40 with
    | false =>
      have z40 : decide ((t.size : Int) ≤ 40) = false := z40
      cases bt <;> cases bn <;> cases bv
      all_goals
        refine G1 F4 (an zt (an zn (an zv (an z40 tt)))) tt tt tt ⟨?_⟩
        refine R1 tt ⟨?_⟩
        exact end0 (NR.v _) rfl
    | true =>
      have z40 : decide ((t.size : Int) ≤ 40) = true := z40
      have np := np (by simpa using h40)
      cases bt <;> cases bn <;> cases bv <;> cases bq
      all_goals
        refine G1 F4 (an zt (an zn (an zv (an z40 (an zq tt))))) (an np.go tt) tt tt ⟨?_⟩
        refine R1 tt ⟨?_⟩
        exact end0 (NR.v _) rfl
  rw [if_neg h3]
  have k0 : ((k : Int) == 0) = false := by rw [beq_eq_false_iff_ne, ne_eq]; omega
  have k1 : ((k : Int) == 1) = false := by rw [beq_eq_false_iff_ne, ne_eq]; omega
  have k2 : ((k : Int) == 2) = false := by rw [beq_eq_false_iff_ne, ne_eq]; omega
  have k3 : ((k : Int) == 3) = false := by rw [beq_eq_false_iff_ne, ne_eq]; omega
  by_cases h4 : k = 4
  · subst h4
    rw [if_pos rfl]
    have vp := valid_p t ht
    obtain ⟨w, hw⟩ : ∃ w, validP t = w := ⟨_, rfl⟩
    rw [hw] at vp ⊢
    cases bn <;> cases bv <;> cases w
    all_goals
      refine G1 F4 (an zt (an zn (an zv tt))) (an vp.go tt) tt tt ⟨?_⟩
      refine R1 tt ⟨?_⟩
      exact end0 (NR.v _) rfl
  rw [if_neg h4]
  by_cases h5 : k = 5
  · subst h5
    rw [if_pos rfl]
    cases bt <;> cases bn
    all_goals
      refine G1 F4 (an zt (an zn (an zv tt))) tt tt tt ⟨?_⟩
      refine R1 tt ⟨?_⟩
      exact end0 (NR.v _) rfl
  rw [if_neg h5]
  by_cases h6 : k = 6
  · subst h6
    rw [if_pos rfl]
    have cf := fun c => ctf_p ns c hn hz
    obtain ⟨w, hw⟩ : ∃ w, ns.all validP = w := ⟨_, rfl⟩
    have zm := intq ns.length vs.length
    obtain ⟨bm, hm⟩ : ∃ b, decide (ns.length = vs.length) = b := ⟨_, rfl⟩
    rw [hw] at cf ⊢
    rw [hm] at zm ⊢
    cases bt <;> cases bm <;> cases w
    all_goals
      repeat (first
        | (with_reducible refine lops_step fun K hK => ?_; simp (disch := first | exact dch | fail) only [go_sem, Nat.reduceAdd, Nat.reduceSub, reduceIte, Nat.reduceEqDiff, Int.reduceToNat, Int.reduceBEq, Int.reduceBNe, zt, zm, Bool.not_not]; (try (first | (refine And.intro (fun _ => ?_) (fun h => absurd h (by decide))) | (refine And.intro (fun h => absurd h (by decide)) (fun _ => ?_)))); (repeat (with_reducible refine And.intro acl ?_)); (first | (refine hK _ _ ?_) | (refine ⟨_, rfl, hK _ _ ?_⟩) | (refine Or.inl (hK _ _ ?_)) | (refine ⟨_, _, Or.inl ((cf _).go _), (by first | exact ⟨[], (List.append_nil _).symm⟩ | exact ⟨_, rfl⟩), hK _ _ ?_⟩) | (refine ⟨_, _, Or.inl ((cf _).go _), hK _ _ ?_⟩) | (refine ⟨_, _, Or.inl ((cf _).go _).weakQ, hK _ _ ?_⟩)); clear hK K)
        | (with_reducible refine lops_nil ?_)
        | (with_reducible first | refine lavc_reg ?_ | refine lavc_seq ?_ | refine lavc_block ?_ | refine lavc_skip ?_ | refine lavc_exit ?_ | refine lavc_ret ?_ | refine lavcR_round ?_)
        | (refine lavc_cond rfl (fun _ => ?_) (fun hc => absurd hc (by decide)))
        | (refine lavc_cond rfl (fun hc => absurd hc (by decide)) (fun _ => ?_))
        | (simp only [↓reduceIte, Nat.reduceEqDiff, reduceCtorEq]))
      refine R1 tt ⟨?_⟩
      exact end0 (NR.v _) rfl
  rw [if_neg h6]
  have k4 : ((k : Int) == 4) = false := by rw [beq_eq_false_iff_ne, ne_eq]; omega
  have k5 : ((k : Int) == 5) = false := by rw [beq_eq_false_iff_ne, ne_eq]; omega
  have k6 : ((k : Int) == 6) = false := by rw [beq_eq_false_iff_ne, ne_eq]; omega
  refine G1 F4 (an k0 (an k1 (an k2 (an k3 (an k4 (an k5 (an k6 tt))))))) tt tt tt ⟨?_⟩
  refine R1 tt ⟨?_⟩
  exact end0 (NR.v _) rfl
theorem good_v : ∀ v : Val, small v → ∀ d : Int, 1 ≤ d → d ≤ 9 → PCall Tryz.prog glob 35 [vA v, ivC d] (ivC (goodV v d)) := Val.ind fun k t ns vs ih hsm d hd1 hd9 => by
  obtain ⟨h1, hall⟩ := hsm.at
  have fp := form_p (.mk k t ns vs) h1
  obtain ⟨ht, hn, hz, hv⟩ := h1
  have tp := fun c => twice_p ns c hn
  have hlx := cellsL_length vs
  refine PCall.of ctx.nr (List.forall_mem_cons.2 ⟨NR.vA _, List.forall_mem_cons.2 ⟨NR.v _, fun _ h => absurd h List.not_mem_nil⟩⟩) (NR.v _) ?_
  refine lcall35 (by simp) 0 (Nat.le_refl _) ?_
  rw [goodV]
  unfold vA at fp ⊢
  rw [Val.cells] at fp ⊢
  unfold lc35
  refine I1 tt ⟨?_⟩
  by_cases h8 : 8 < d
  · rw [if_pos h8]
    have e8 : decide (d > 8) = true := by rw [decide_eq_true_eq]; omega
    refine G1 F4 (an e8 tt) tt tt tt ⟨?_⟩
    refine R1 tt ⟨?_⟩
    exact end0 (NR.v _) rfl
  rw [if_neg h8]
  have e8 : decide (d > 8) = false := by rw [decide_eq_false_iff_not]; omega
  cases hf : formV (.mk k t ns vs) with
  | false =>
    rw [hf] at fp
    rw [if_pos rfl]
    refine G1 F4 (an e8 tt) (an fp.go tt) tt tt ⟨?_⟩
    refine R1 tt ⟨?_⟩
    exact end0 (NR.v _) rfl
  | true =>
    rw [hf] at fp
    rw [if_neg (by decide)]
    by_cases h64 : 64 < vs.length
    · rw [if_pos h64]
      have d1 : decide ((vs.length : Int) > 64) = true := by rw [decide_eq_true_eq]; omega
      refine G1 F4 (an e8 (an d1 tt)) (an fp.go tt) tt tt ⟨?_⟩
      refine R1 tt ⟨?_⟩
      exact end0 (NR.v _) rfl
    rw [if_neg h64]
    have d1 : decide ((vs.length : Int) > 64) = false := by rw [decide_eq_false_iff_not]; omega
    cases htw : twiceP ns with
    | true =>
      rw [htw] at tp
      rw [if_pos rfl]
      refine G1 F4 (an e8 (an d1 tt)) (an fp.go tt) (an (fun u => (tp u).go) tt) tt ⟨?_⟩
      refine R1 tt ⟨?_⟩
      exact end0 (NR.v _) rfl
    | false =>
      rw [htw] at tp
      rw [if_neg (by decide)]
      obtain ⟨V, hV⟩ : ∃ V, goodL vs (d + 1) = V := ⟨_, rfl⟩
      rw [hV]
      refine G1 F4 (an e8 (an d1 tt)) (an fp.go tt) (an (fun u => (tp u).go) tt) tt ⟨?_⟩
      refine lavc_loopM ms35_0 (fun m (x : Nat × AHeap) => m + x.1 = vs.length ∧ goodL (vs.drop x.1) (d + 1) = V) (fun x => [(27, ivC x.1)]) (fun x => [Blk.mk [ivC k, stA t, .vsl ns.length (strs ns) none, .vsl vs.length (cellsL vs) none] 0 true 29] ++ x.2) vs.length (0, []) ⟨by omega, hV⟩ ?_ ?_ ?_
      · try unfold ms35_0
        refine A1 tt ⟨?_⟩
        rfl
      · rfl
      rintro m ⟨j, gg⟩ ⟨hk, hi⟩
      simp only at hk hi ⊢
      try unfold ms35_0
      refine M1 tt ⟨?_⟩
      refine G1 F1 tt tt tt tt ⟨?_⟩
      refine cnd rfl (fun hc => ?_) (fun hc => ?_)
      · have hkl : j < vs.length := by omega
        have hat := cellsL_at vs j hkl
        rw [goodL_step vs j hkl] at hi
        have hmem := getD_mem vs j hkl
        obtain ⟨y, hy⟩ : ∃ y, vs.getD j default = y := ⟨_, rfl⟩
        rw [hy] at hat hi hmem
        have gt := ih y hmem (hall y hmem) (d + 1) (by omega) (by omega)
        have e3 := i64n ((j : Int) + 1) (j + 1) (by omega) (by omega)
        have e2 := i64z (d + 1) (by omega)
        obtain ⟨w, hw⟩ : ∃ w, goodV y (d + 1) = w := ⟨_, rfl⟩
        rw [hw] at gt hi
        obtain ⟨k', t', ns', vs'⟩ := y
        unfold vA at gt
        rw [Val.cells] at gt hat
        by_cases h0 : w = 0
        · subst h0
          rw [if_pos rfl] at hi
          refine G1 F4 (an hat (an hlx (an e2 (an e3 tt)))) (an gt.go tt) tt tt ⟨?_⟩
          refine ⟨m - 1, (j + 1, gg ++ [⟨[ivC k', stA t', .vsl ns'.length (strs ns') none, .vsl vs'.length (cellsL vs') none], 0, true, 29⟩]), by omega, ⟨by show m - 1 + (j + 1) = vs.length; omega, hi⟩, ?_, (by first | rfl | trivial)⟩
          try unfold ms35_0
          exact A0 tt
        · rw [if_neg h0] at hi
          have dw : ((w : Int) != 0) = true := by rw [bne_iff_ne, ne_eq]; omega
          refine G1 F4 (an hat (an hlx (an e2 (an e3 (an dw tt))))) (an gt.go tt) tt tt ⟨?_⟩
          refine R1 tt ⟨?_⟩
          exact end0 (NR.v _) (by rw [← hi])
      · have hk2 : j = vs.length := by omega
        rw [hk2, List.drop_length] at hi
        refine G1 F4 tt tt tt tt ⟨?_⟩
        refine R1 tt ⟨?_⟩
        exact end0 (NR.v _) (by rw [← hi]; rfl)
theorem Good_v (v : Val) (h : small v) : PCall Tryz.prog glob 19 [vA v] (ivC (goodV v 1)) := by
  refine PCall.of ctx.nr (List.forall_mem_cons.2 ⟨NR.vA v, fun _ h => absurd h List.not_mem_nil⟩) (NR.v _) ?_
  refine lcall19 (by simp) 0 (Nat.le_refl _) ?_
  have gp := good_v v h 1 (by decide) (by decide)
  obtain ⟨w, hw⟩ : ∃ w, goodV v 1 = w := ⟨_, rfl⟩
  rw [hw] at gp ⊢
  obtain ⟨k, t, ns, vs⟩ := v
  unfold vA at gp ⊢
  rw [Val.cells] at gp ⊢
  unfold lc19
  refine I1 tt ⟨?_⟩
  refine G1 F4 tt (an gp.go tt) tt tt ⟨?_⟩
  refine R1 tt ⟨?_⟩
  exact end0 (NR.v _) rfl
end Go.Abs.S
namespace Go.Abs.S
open Go.Proofs
set_option maxRecDepth 100000
def impCodS : FuncId → Bool := fun f => f == 16 || f == 17 || f == 18 || f == 30 || f == 31 || f == 32 || f == 48 || f == 50 || f == 57 || f == 58 || f == 74 || f == 86 || f == 100 || f == 116
/-- escutcheon/page.Same -/
def lc9 : LCode := .seq (.reg []
  [o1 2 (.box 29 (.tmp 0)),
  o1 3 (.box 29 (.tmp 1)),
  o1 4 (.assign (.const (.bool false)))]) (.seq (.reg []
  [o1 5 (.fieldAddr 29 (.tmp 2) 0),
  o1 6 (.load 25 (.tmp 5)),
  o1 7 (.fieldAddr 29 (.tmp 3) 0),
  o1 8 (.load 25 (.tmp 7)),
  o1 9 (.binOp .eql 25 (.tmp 6) (.tmp 8) 25),
  o1 10 (.move (.tmp 9)),
  o2 11 (.fieldAddr 29 (.tmp 2) 1) 10 true,
  o2 12 (.load 9 (.tmp 11)) 10 true,
  o2 13 (.fieldAddr 29 (.tmp 3) 1) 10 true,
  o2 14 (.load 9 (.tmp 13)) 10 true,
  o2 15 (.binOp .eql 9 (.tmp 12) (.tmp 14) 9) 10 true,
  o1 16 (.pick (.tmp 10) (.tmp 15) (.const (.bool false))),
  o1 17 (.move (.tmp 16)),
  o2 18 (.fieldAddr 29 (.tmp 2) 2) 17 true,
  o2 19 (.load 26 (.tmp 18)) 17 true,
  o2 20 (.fieldAddr 29 (.tmp 3) 2) 17 true,
  o2 21 (.load 26 (.tmp 20)) 17 true,
  o2 22 (.call ⟨.value (.func 21), #[.tmp 19, .tmp 21], #[26, 26]⟩) 17 true,
  o1 23 (.pick (.tmp 17) (.tmp 22) (.const (.bool false))),
  o1 24 (.move (.tmp 23)),
  o2 25 (.fieldAddr 29 (.tmp 2) 3) 24 true,
  o2 26 (.load 27 (.tmp 25)) 24 true,
  o2 27 (.fieldAddr 29 (.tmp 3) 3) 24 true,
  o2 28 (.load 27 (.tmp 27)) 24 true,
  o2 29 (.call ⟨.value (.func 22), #[.tmp 26, .tmp 28, .func 9], #[27, 27, 35]⟩) 24 true,
  o1 30 (.pick (.tmp 24) (.tmp 29) (.const (.bool false))),
  o1 4 (.assign (.tmp 30))]) (.ret))
theorem ls9 : Tryz.f9.body.map (strip Tryz.prog impCodS) = some lc9 := by kernel_rfl
theorem lcall9 : LC 9 31 lc9 [.tmp 4] := LC.of Tryz.func9 (by kernel_rfl) ls9 (by kernel_rfl) (by kernel_rfl)
/-- slices.Equal[[]string,string] -/
def lc21 : LCode := .seq (.reg []
  [o1 4 (.assign (.const (.bool false)))]) (.seq (.seq (.reg []
  [o1 6 (.move (.tmp 0)),
  o1 7 (.call ⟨.builtin .len, #[.tmp 6], #[26]⟩),
  o1 8 (.move (.tmp 1)),
  o1 9 (.call ⟨.builtin .len, #[.tmp 8], #[26]⟩),
  o1 10 (.binOp .neq 3 (.tmp 7) (.tmp 9) 3)]) (.cond (.tmp 10) (.seq (.reg []
  [o1 4 (.assign (.const (.bool false)))]) (.ret)) (.skip))) (.seq (.seq (.reg []
  [o1 11 (.move (.tmp 0)),
  o1 12 (.call ⟨.builtin .len, #[.tmp 11], #[26]⟩),
  o1 13 (.move (.const (.int .i64 0)))]) (.block 0 (.loop (.seq (.reg []
  [o1 14 (.binOp .lss 3 (.tmp 13) (.tmp 12) 3)]) (.seq (.cond (.tmp 14) (.skip) (.exit 0)) (.seq (.block 1 (.seq (.reg []
  [o1 15 (.move (.tmp 13)),
  o1 5 (.assign (.tmp 15))]) (.seq (.reg [o1 16 (.move (.tmp 0)),
  o1 17 (.move (.tmp 5)),
  o1 18 (.indexAddr 26 (.tmp 16) (.tmp 17)),
  o1 19 (.load 9 (.tmp 18)),
  o1 20 (.move (.tmp 1)),
  o1 21 (.move (.tmp 5)),
  o1 22 (.indexAddr 26 (.tmp 20) (.tmp 21)),
  o1 23 (.load 9 (.tmp 22)),
  o1 24 (.binOp .neq 9 (.tmp 19) (.tmp 23) 9)]
  []) (.cond (.tmp 24) (.seq (.reg []
  [o1 4 (.assign (.const (.bool false)))]) (.ret)) (.skip))))) (.reg []
  [o1 25 (.binOp .add 3 (.tmp 13) (.const (.int .i64 1)) 3),
  o1 13 (.move (.tmp 25))]))))))) (.seq (.reg []
  [o1 4 (.assign (.const (.bool true)))]) (.ret))))
def ms21_0 : List Nat := [2, 3, 4, 5, 6, 7, 8, 9, 10, 11, 13, 14, 15, 16, 17, 18, 19, 20, 21, 22, 23, 24, 25]
theorem ls21 : Tryz.f21.body.map (strip Tryz.prog impCodS) = some lc21 := by kernel_rfl
theorem lcall21 : LC 21 26 lc21 [.tmp 4] := LC.of Tryz.func21 (by kernel_rfl) ls21 (by kernel_rfl) (by kernel_rfl)
/-- slices.EqualFunc[[]escutcheon/page.Value,[]escutcheon/page.Value,escutcheon/page.Value,escutcheon/page.Value] -/
def lc22 : LCode := .seq (.reg []
  [o1 6 (.assign (.const (.bool false)))]) (.seq (.seq (.reg []
  [o1 10 (.move (.tmp 0)),
  o1 11 (.call ⟨.builtin .len, #[.tmp 10], #[27]⟩),
  o1 12 (.move (.tmp 1)),
  o1 13 (.call ⟨.builtin .len, #[.tmp 12], #[27]⟩),
  o1 14 (.binOp .neq 3 (.tmp 11) (.tmp 13) 3)]) (.cond (.tmp 14) (.seq (.reg []
  [o1 6 (.assign (.const (.bool false)))]) (.ret)) (.skip))) (.seq (.seq (.reg []
  [o1 15 (.move (.tmp 0)),
  o1 16 (.call ⟨.builtin .len, #[.tmp 15], #[27]⟩),
  o1 17 (.move (.const (.int .i64 0)))]) (.block 0 (.loop (.seq (.reg []
  [o1 18 (.binOp .lss 3 (.tmp 17) (.tmp 16) 3)]) (.seq (.cond (.tmp 18) (.skip) (.exit 0)) (.seq (.block 1 (.seq (.reg []
  [o1 19 (.move (.tmp 17)),
  o1 20 (.indexAddr 27 (.tmp 15) (.tmp 17)),
  o1 21 (.load 29 (.tmp 20)),
  o1 8 (.alloc 29),
  o1 7 (.assign (.tmp 19)),
  o3 (.store 29 (.tmp 8) (.tmp 21))]) (.seq (.reg []
  [o1 22 (.move (.tmp 1)),
  o1 23 (.move (.tmp 7)),
  o1 24 (.indexAddr 27 (.tmp 22) (.tmp 23)),
  o1 25 (.load 29 (.tmp 24)),
  o1 9 (.alloc 29),
  o3 (.store 29 (.tmp 9) (.tmp 25))]) (.seq (.reg []
  [o1 26 (.move (.tmp 2)),
  o1 27 (.load 29 (.tmp 8)),
  o1 28 (.load 29 (.tmp 9)),
  o1 29 (.call ⟨.value (.tmp 26), #[.tmp 27, .tmp 28], #[29, 29]⟩),
  o1 30 (.unOp .not 4 (.tmp 29))]) (.cond (.tmp 30) (.seq (.reg []
  [o1 6 (.assign (.const (.bool false)))]) (.ret)) (.skip)))))) (.reg []
  [o1 31 (.binOp .add 3 (.tmp 17) (.const (.int .i64 1)) 3),
  o1 17 (.move (.tmp 31))]))))))) (.seq (.reg []
  [o1 6 (.assign (.const (.bool true)))]) (.ret))))
def ms22_0 : List Nat := [0, 3, 4, 5, 6, 7, 8, 9, 10, 11, 12, 13, 14, 17, 18, 19, 20, 21, 22, 23, 24, 25, 26, 27, 28, 29, 30, 31]
theorem ls22 : Tryz.f22.body.map (strip Tryz.prog impCodS) = some lc22 := by kernel_rfl
theorem lcall22 : LC 22 32 lc22 [.tmp 6] := LC.of Tryz.func22 (by kernel_rfl) ls22 (by kernel_rfl) (by kernel_rfl)
end Go.Abs.S
namespace Go.Abs.S
attribute [local go_sem] lguard aopO aop aenv toAV tput aLoad aStore vcells aBin aNilI aUn aAlloc aBox aBuild aBSlice afill aConv isIntT aappZ aCap aArr aMM aMake aSlice bnd3 bnd aFldAddr aFld aIdxAddr aIdx aExt aLen aCopy aEq0 bAV aUb aapp aappQ agh acont List.getD_cons_zero List.getD_cons_succ List.set_cons_zero List.set_cons_succ List.getElem?_cons_zero List.getElem?_cons_succ List.length_cons List.length_nil List.map_cons List.map_nil ints_length if_true if_false Bool.false_eq_true true_and and_true eq_self ne_eq not_false_eq_true not_true_eq_false beq_self_eq_true Nat.zero_add Nat.add_zero Nat.mul_one Nat.zero_mul Int.toNat_natCast List.toList_toArray List.all_cons List.all_nil AV.one Value.oneCell' Bool.and_true Bool.true_and forall_const true_implies false_implies implies_true Option.map_some Option.map_none Option.isSome_some Option.isSome_none imp_self rdP_flat rdP_row splice_one ints_set ints_get List.append_nil List.cons_append List.nil_append List.getElem?_toArray List.drop_zero ints_drop ints_take List.take_of_length_le splice_all ints_one Option.some.injEq Option.getD_some List.length_replicate zArr List.map_replicate rep_ints splice_intsR List.length_set List.length_append List.flatten_replicate_singleton rep_slice rep_string rep_bool rep_iface List.replicate_zero if_pos if_neg List.mapM_cons List.mapM_nil Option.pure_def Option.bind_eq_bind Option.bind_some Bool.true_eq_false Bool.not_false Bool.not_true get_concat set_concat
open Go.Proofs
open Classical
set_option linter.unusedVariables false
set_option linter.unusedSimpArgs false
set_option maxRecDepth 100000
set_option maxHeartbeats 4000000
/-- Whether two are the same. -/
noncomputable def eqV (a b : Val) : Bool := decide (a = b)
noncomputable def eqN (a b : List ByteArray) : Bool := decide (a = b)
noncomputable def eqVs (a b : List Val) : Bool := decide (a = b)
theorem get_c0 {α : Type} (l : List α) (a b : α) : (l ++ [a, b])[l.length]? = some a := by simp
theorem get_c1 {α : Type} (l : List α) (a b : α) : (l ++ [a, b])[l.length + 1]? = some b := by simp
theorem set_c1 {α : Type} (l : List α) (a b c : α) : (l ++ [a, b]).set (l.length + 1) c = l ++ [a, c] := by
  induction l with
  | nil => rfl
  | cons x l ih => simp [ih]
theorem con_con {α : Type} (l : List α) (a b : α) : l ++ [a] ++ [b] = l ++ [a, b] := by simp
theorem len_con {α : Type} (l : List α) (a : α) : (l ++ [a]).length = l.length + 1 := by simp
theorem drop_eq {α : Type} (a b : List α) (hl : a.length = b.length) (d : α) (k : Nat) (h : k < a.length) : (a.drop k = b.drop k) ↔ (a.getD k d = b.getD k d ∧ a.drop (k + 1) = b.drop (k + 1)) := by
  rw [List.drop_eq_getElem_cons h, List.drop_eq_getElem_cons (show k < b.length by omega), List.cons.injEq, List.getD_eq_getElem?_getD, List.getD_eq_getElem?_getD, List.getElem?_eq_getElem h, List.getElem?_eq_getElem (show k < b.length by omega)]
  rfl
theorem equal_p (l m : List ByteArray) (c d : Option Nat) (hl : l.length ≤ 1000) (hm : m.length ≤ 1000) : PCall Tryz.prog glob 21 [.vsl l.length (strs l) c, .vsl m.length (strs m) d] (.v (.bool (eqN l m))) := by
  refine PCall.of ctx.nr (List.forall_mem_cons.2 ⟨NR.vsl (NR.strs _), List.forall_mem_cons.2 ⟨NR.vsl (NR.strs _), fun _ h => absurd h List.not_mem_nil⟩⟩) (NR.v _) ?_
  refine lcall21 (by simp) 0 (Nat.le_refl _) ?_
  unfold lc21
  refine I1 tt ⟨?_⟩
  have hs := strs_length l
  have hs2 := strs_length m
  by_cases hlen : l.length = m.length
  · have q0 : ((l.length : Int) != (m.length : Int)) = false := by rw [hlen]; simp
    refine G1 F4 (an q0 tt) tt tt tt ⟨?_⟩
    refine lavc_loopM ms21_0 (fun n (k : Nat) => n + k = l.length ∧ ((l.drop k = m.drop k) ↔ l = m)) (fun k => [(13, ivC k)]) (fun _ => []) l.length 0 ⟨by omega, by simp⟩ ?_ rfl ?_
    · try unfold ms21_0
      refine A1 tt ⟨?_⟩
      rfl
    rintro n k ⟨hk, hi⟩
    try unfold ms21_0
    refine M1 tt ⟨?_⟩
    refine G1 F1 tt tt tt tt ⟨?_⟩
    refine cnd rfl (fun hc => ?_) (fun hc => ?_)
    · have hkl : k < l.length := by omega
      have hat := strs_at l k hkl
      have hat2 := strs_at m k (by omega)
      have e3 := i64n ((k : Int) + 1) (k + 1) (by omega) (by omega)
      have hd := drop_eq l m hlen ⟨#[]⟩ k hkl
      obtain ⟨y, hy⟩ : ∃ y, l.getD k ⟨#[]⟩ = y := ⟨_, rfl⟩
      obtain ⟨z, hz⟩ : ∃ y, m.getD k ⟨#[]⟩ = y := ⟨_, rfl⟩
      rw [hy] at hat hd
      rw [hz] at hat2 hd
      by_cases hyz : y = z
      · have q : (y.toList == z.toList) = true := by rw [hyz]; simp
        refine G1 F4 (an hat (an hat2 (an q (an e3 tt)))) tt tt tt ⟨?_⟩
        refine ⟨n - 1, k + 1, by omega, ⟨by omega, ?_⟩, ?_, (by first | rfl | trivial)⟩
        · rw [← hi, hd]
          exact ⟨fun h => ⟨hyz, h⟩, fun h => h.2⟩
        · try unfold ms21_0
          exact A0 tt
      · have q : (y.toList == z.toList) = false := by rw [stA_beq]; exact decide_eq_false hyz
        refine G1 F4 (an hat (an hat2 (an q (an e3 tt)))) tt tt tt ⟨?_⟩
        refine R1 tt ⟨?_⟩
        refine end0 (NR.v _) ?_
        have : ¬ l = m := fun h => hyz (hd.1 (hi.2 h)).1
        unfold eqN
        rw [decide_eq_false this]
    · have hk2 : k = l.length := by omega
      refine G1 F4 tt tt tt tt ⟨?_⟩
      refine R1 tt ⟨?_⟩
      refine end0 (NR.v _) ?_
      have : l = m := hi.1 (by rw [hk2, List.drop_length, hlen, List.drop_length])
      unfold eqN
      rw [decide_eq_true this]
  · have q0 : ((l.length : Int) != (m.length : Int)) = true := by rw [bne_iff_ne, ne_eq]; omega
    refine G1 F4 (an q0 tt) tt tt tt ⟨?_⟩
    refine R1 tt ⟨?_⟩
    refine end0 (NR.v _) ?_
    have : ¬ l = m := fun h => hlen (by rw [h])
    unfold eqN
    rw [decide_eq_false this]
theorem bool4 (V a b e g : Bool) (h : V = true ↔ (a = true ∧ b = true ∧ e = true ∧ g = true)) : V = (a && b && e && g) := by
  cases a <;> cases b <;> cases e <;> cases g <;> cases V <;> simp at h ⊢
abbrev SameF : AV := .fn (.func 9) []
theorem SameF.nr : NR SameF := fun σ w u h => by
  cases h with
  | fn us hl ha => exact .fn us hl (fun j hj => absurd hj (Nat.not_lt_zero _))
theorem eqf_p (l m : List Val) (c d : Option Nat) (hl : l.length ≤ 1000) (hm : m.length ≤ 1000) (ih : ∀ v ∈ l, ∀ w ∈ m, PCall Tryz.prog glob 9 [vA v, vA w] (.v (.bool (eqV v w)))) :
    PCall Tryz.prog glob 22 [.vsl l.length (cellsL l) c, .vsl m.length (cellsL m) d, SameF] (.v (.bool (eqVs l m))) := by
  refine PCall.of ctx.nr (List.forall_mem_cons.2 ⟨NR.vsl (cellsL_nr l), List.forall_mem_cons.2 ⟨NR.vsl (cellsL_nr m), List.forall_mem_cons.2 ⟨SameF.nr, fun _ h => absurd h List.not_mem_nil⟩⟩⟩) (NR.v _) ?_
  refine lcall22 (by simp) 0 (Nat.le_refl _) ?_
  unfold lc22
  refine I1 tt ⟨?_⟩
  have hs := cellsL_length l
  have hs2 := cellsL_length m
  by_cases hlen : l.length = m.length
  · have q0 : ((l.length : Int) != (m.length : Int)) = false := by rw [hlen]; simp
    refine G1 F4 (an q0 tt) tt tt tt ⟨?_⟩
    refine lavc_loopM ms22_0 (fun n (x : Nat × AHeap) => n + x.1 = l.length ∧ ((l.drop x.1 = m.drop x.1) ↔ l = m)) (fun x => [(17, ivC x.1)]) (fun x => x.2) l.length (0, _) ⟨by show l.length + 0 = _; omega, by show (l.drop 0 = m.drop 0) ↔ _; simp⟩ ?_ rfl ?_
    · try unfold ms22_0
      refine A1 tt ⟨?_⟩
      rfl
    rintro n ⟨k, gg⟩ ⟨hk, hi⟩
    simp only at hk hi ⊢
    try unfold ms22_0
    refine M1 tt ⟨?_⟩
    refine G1 F1 tt tt tt tt ⟨?_⟩
    refine cnd rfl (fun hc => ?_) (fun hc => ?_)
    · have hkl : k < l.length := by omega
      have hat := cellsL_at l k hkl
      have hat2 := cellsL_at m k (by omega)
      have e3 := i64n ((k : Int) + 1) (k + 1) (by omega) (by omega)
      have hd := drop_eq l m hlen default k hkl
      have hm1 := getD_mem l k hkl
      have hm2 := getD_mem m k (by omega)
      obtain ⟨y, hy⟩ : ∃ y, l.getD k default = y := ⟨_, rfl⟩
      obtain ⟨z, hz⟩ : ∃ y, m.getD k default = y := ⟨_, rfl⟩
      rw [hy] at hat hd hm1
      rw [hz] at hat2 hd hm2
      have sp := ih y hm1 z hm2
      obtain ⟨w, hw⟩ : ∃ w, eqV y z = w := ⟨_, rfl⟩
      have hw2 : w = true ↔ y = z := by rw [← hw]; unfold eqV; exact decide_eq_true_iff
      rw [hw] at sp
      obtain ⟨k1, t1, n1, v1⟩ := y
      obtain ⟨k2, t2, n2, v2⟩ := z
      unfold vA at sp
      rw [Val.cells] at hat hat2
      rw [Val.cells, Val.cells] at sp
      cases w with
      | true =>
        repeat (first
          | (with_reducible refine lops_step fun K hK => ?_; simp (disch := first | exact dch | fail) only [go_sem, Nat.reduceAdd, Nat.reduceSub, reduceIte, Nat.reduceEqDiff, Int.reduceToNat, Int.reduceBEq, Int.reduceBNe, hat, hat2, hs, hs2, e3, get_concat, set_concat, con_con, get_c0, get_c1, set_c1, len_con]; (try (first | (refine And.intro (fun _ => ?_) (fun h => absurd h (by decide))) | (refine And.intro (fun h => absurd h (by decide)) (fun _ => ?_)))); (repeat (with_reducible refine And.intro acl ?_)); (first | (refine hK _ _ ?_) | (refine ⟨_, rfl, hK _ _ ?_⟩) | (refine Or.inl (hK _ _ ?_)) | (refine ⟨_, _, Or.inl (sp.go _), (by first | exact ⟨[], (List.append_nil _).symm⟩ | exact ⟨_, rfl⟩), hK _ _ ?_⟩) | (refine ⟨_, _, Or.inl (sp.go _), hK _ _ ?_⟩) | (refine ⟨_, _, Or.inl (sp.go _).weakQ, hK _ _ ?_⟩)); clear hK K)
          | (with_reducible refine lops_nil ?_)
          | (with_reducible first | refine lavc_reg ?_ | refine lavc_seq ?_ | refine lavc_block ?_ | refine lavc_skip ?_ | refine lavc_exit ?_ | refine lavc_ret ?_ | refine lavcR_round ?_)
          | (refine lavc_cond rfl (fun _ => ?_) (fun hc => absurd hc (by decide)))
          | (refine lavc_cond rfl (fun hc => absurd hc (by decide)) (fun _ => ?_))
          | (simp only [↓reduceIte, Nat.reduceEqDiff, reduceCtorEq]))
        refine ⟨n - 1, (k + 1, _), by omega, ⟨by show n - 1 + (k + 1) = l.length; omega, ?_⟩, ?_, rfl⟩
        · show (l.drop (k + 1) = m.drop (k + 1)) ↔ _
          rw [← hi, hd]
          exact ⟨fun h => ⟨hw2.1 rfl, h⟩, fun h => h.2⟩
        · try unfold ms22_0
          exact A0 tt
      | false =>
        repeat (first
          | (with_reducible refine lops_step fun K hK => ?_; simp (disch := first | exact dch | fail) only [go_sem, Nat.reduceAdd, Nat.reduceSub, reduceIte, Nat.reduceEqDiff, Int.reduceToNat, Int.reduceBEq, Int.reduceBNe, hat, hat2, hs, hs2, e3, get_concat, set_concat, con_con, get_c0, get_c1, set_c1, len_con]; (try (first | (refine And.intro (fun _ => ?_) (fun h => absurd h (by decide))) | (refine And.intro (fun h => absurd h (by decide)) (fun _ => ?_)))); (repeat (with_reducible refine And.intro acl ?_)); (first | (refine hK _ _ ?_) | (refine ⟨_, rfl, hK _ _ ?_⟩) | (refine Or.inl (hK _ _ ?_)) | (refine ⟨_, _, Or.inl (sp.go _), (by first | exact ⟨[], (List.append_nil _).symm⟩ | exact ⟨_, rfl⟩), hK _ _ ?_⟩) | (refine ⟨_, _, Or.inl (sp.go _), hK _ _ ?_⟩) | (refine ⟨_, _, Or.inl (sp.go _).weakQ, hK _ _ ?_⟩)); clear hK K)
          | (with_reducible refine lops_nil ?_)
          | (with_reducible first | refine lavc_reg ?_ | refine lavc_seq ?_ | refine lavc_block ?_ | refine lavc_skip ?_ | refine lavc_exit ?_ | refine lavc_ret ?_ | refine lavcR_round ?_)
          | (refine lavc_cond rfl (fun _ => ?_) (fun hc => absurd hc (by decide)))
          | (refine lavc_cond rfl (fun hc => absurd hc (by decide)) (fun _ => ?_))
          | (simp only [↓reduceIte, Nat.reduceEqDiff, reduceCtorEq]))
        refine R1 tt ⟨?_⟩
        refine end0 (NR.v _) ?_
        have : ¬ l = m := fun h => by
          have := hw2.2 (hd.1 (hi.2 h)).1
          cases this
        unfold eqVs
        rw [decide_eq_false this]
    · have hk2 : k = l.length := by omega
      refine G1 F4 tt tt tt tt ⟨?_⟩
      refine R1 tt ⟨?_⟩
      refine end0 (NR.v _) ?_
      have : l = m := hi.1 (by rw [hk2, List.drop_length, hlen, List.drop_length])
      unfold eqVs
      rw [decide_eq_true this]
  · have q0 : ((l.length : Int) != (m.length : Int)) = true := by rw [bne_iff_ne, ne_eq]; omega
    refine G1 F4 (an q0 tt) tt tt tt ⟨?_⟩
    refine R1 tt ⟨?_⟩
    refine end0 (NR.v _) ?_
    have : ¬ l = m := fun h => hlen (by rw [h])
    unfold eqVs
    rw [decide_eq_false this]
theorem same_v : ∀ a : Val, small a → ∀ b : Val, small b → PCall Tryz.prog glob 9 [vA a, vA b] (.v (.bool (eqV a b))) := Val.ind fun k t ns vs ih hs b hsb => by
  obtain ⟨k2, t2, n2, v2⟩ := b
  obtain ⟨h1, hall⟩ := hs.at
  obtain ⟨h2, hall2⟩ := hsb.at
  obtain ⟨_, hn, _, hv⟩ := h1
  obtain ⟨_, hn2, _, hv2⟩ := h2
  have ep := fun c d => equal_p ns n2 c d hn hn2
  have fp := fun c d => eqf_p vs v2 c d hv hv2 (fun v hv w hw => ih v hv (hall v hv) w (hall2 w hw))
  refine PCall.of ctx.nr (List.forall_mem_cons.2 ⟨NR.vA _, List.forall_mem_cons.2 ⟨NR.vA _, fun _ h => absurd h List.not_mem_nil⟩⟩) (NR.v _) ?_
  refine lcall9 (by simp) 0 (Nat.le_refl _) ?_
  obtain ⟨V, hV⟩ : ∃ V, eqV (.mk k t ns vs) (.mk k2 t2 n2 v2) = V := ⟨_, rfl⟩
  have hV2 : V = true ↔ (k = k2 ∧ t = t2 ∧ ns = n2 ∧ vs = v2) := by
    rw [← hV]
    unfold eqV
    rw [decide_eq_true_iff, Val.mk.injEq]
  rw [hV]
  obtain ⟨e, he⟩ : ∃ e, eqN ns n2 = e := ⟨_, rfl⟩
  obtain ⟨g, hg⟩ : ∃ e, eqVs vs v2 = e := ⟨_, rfl⟩
  have he2 : e = true ↔ ns = n2 := by rw [← he]; unfold eqN; exact decide_eq_true_iff
  have hg2 : g = true ↔ vs = v2 := by rw [← hg]; unfold eqVs; exact decide_eq_true_iff
  rw [he] at ep
  rw [hg] at fp
  obtain ⟨a, ha⟩ : ∃ e, (k == k2) = e := ⟨_, rfl⟩
  obtain ⟨b, hb⟩ : ∃ e, (t.toList == t2.toList) = e := ⟨_, rfl⟩
  have ha2 : a = true ↔ k = k2 := by rw [← ha]; exact beq_iff_eq
  have hb2 : b = true ↔ t = t2 := by rw [← hb, stA_beq]; exact decide_eq_true_iff
  rw [← ha2, ← hb2, ← he2, ← hg2] at hV2
  have hVe := bool4 V a b e g hV2
  rw [hVe]
  unfold vA
  rw [Val.cells, Val.cells]
  unfold lc9
  refine I1 tt ⟨?_⟩
  cases a <;> cases b <;> cases e <;> cases g
  all_goals
    refine G1 F4 (an ha (an hb tt)) tt (an (fun u v => (ep u v).go) (an (fun u v => (fp u v).go) tt)) tt ⟨?_⟩
    refine R1 tt ⟨?_⟩
    exact end0 (NR.v _) rfl
end Go.Abs.S
namespace Go.Abs.S
open Go.Proofs
set_option maxRecDepth 100000
def impCodP : FuncId → Bool := fun f => f == 16 || f == 17 || f == 18 || f == 30 || f == 31 || f == 32 || f == 48 || f == 50 || f == 57 || f == 58 || f == 74 || f == 86 || f == 100 || f == 116
/-- (*escutcheon/page.reader).blanks -/
def lc17 : LCode := .reg []
  [o1 2 (.move (.tmp 0)),
  o1 3 (.move (.tmp 0)),
  o1 4 (.nilCheck (.tmp 3)),
  o1 5 (.fieldAddr 52 (.tmp 4) 0),
  o1 6 (.load 9 (.tmp 5)),
  o1 7 (.call ⟨.value (.func 34), #[.tmp 6, .const (.string { data := #[32, 9, 10, 13] })], #[9, 9]⟩),
  o1 8 (.nilCheck (.tmp 2)),
  o1 9 (.fieldAddr 52 (.tmp 8) 0),
  o3 (.store 9 (.tmp 9) (.tmp 7))]
theorem ls17 : Tryz.f17.body.map (strip Tryz.prog impCodP) = some lc17 := by kernel_rfl
theorem lcall17 : LC 17 10 lc17 [] := LC.of Tryz.func17 (by kernel_rfl) ls17 (by kernel_rfl) (by kernel_rfl)
/-- (*escutcheon/page.reader).give -/
def lc18 : LCode := .seq (.reg []
  [o1 4 (.move (.tmp 0)),
  o1 5 (.nilCheck (.tmp 4)),
  o1 6 (.fieldAddr 52 (.tmp 5) 1),
  o1 7 (.load 30 (.tmp 6)),
  o1 8 (.binOp .eql 30 (.tmp 7) (.const (.int .i64 0)) 30)]) (.cond (.tmp 8) (.reg []
  [o1 9 (.move (.tmp 0)),
  o1 10 (.move (.tmp 0)),
  o1 11 (.move (.tmp 1)),
  o1 12 (.nilCheck (.tmp 9)),
  o1 13 (.fieldAddr 52 (.tmp 12) 1),
  o3 (.store 30 (.tmp 13) (.tmp 11)),
  o1 14 (.nilCheck (.tmp 10)),
  o1 15 (.fieldAddr 52 (.tmp 14) 0),
  o3 (.store 9 (.tmp 15) (.const (.string { data := #[] })))]) (.skip))
theorem ls18 : Tryz.f18.body.map (strip Tryz.prog impCodP) = some lc18 := by kernel_rfl
theorem lcall18 : LC 18 16 lc18 [] := LC.of Tryz.func18 (by kernel_rfl) ls18 (by kernel_rfl) (by kernel_rfl)
/-- (*escutcheon/page.reader).take -/
def lc30 : LCode := .seq (.reg []
  [o1 4 (.assign (.const (.bool false)))]) (.seq (.reg []
  [o1 8 (.move (.tmp 0)),
  o1 9 (.nilCheck (.tmp 8)),
  o1 10 (.fieldAddr 52 (.tmp 9) 0),
  o1 11 (.load 9 (.tmp 10)),
  o1 12 (.move (.tmp 1)),
  o1 13 (.call ⟨.value (.func 53), #[.tmp 11, .tmp 12], #[9, 9]⟩),
  o1 7 (.move (.tmp 13)),
  o1 14 (.extract (.tmp 7) 0),
  o1 15 (.extract (.tmp 7) 1),
  o1 5 (.assign (.tmp 14)),
  o1 6 (.assign (.tmp 15))]) (.seq (.reg []
  [o1 16 (.move (.tmp 0)),
  o1 17 (.move (.tmp 5)),
  o1 18 (.nilCheck (.tmp 16)),
  o1 19 (.fieldAddr 52 (.tmp 18) 0),
  o3 (.store 9 (.tmp 19) (.tmp 17))]) (.seq (.reg []
  [o1 20 (.move (.tmp 6)),
  o1 4 (.assign (.tmp 20))]) (.ret))))
theorem ls30 : Tryz.f30.body.map (strip Tryz.prog impCodP) = some lc30 := by kernel_rfl
theorem lcall30 : LC 30 21 lc30 [.tmp 4] := LC.of Tryz.func30 (by kernel_rfl) ls30 (by kernel_rfl) (by kernel_rfl)
/-- (*escutcheon/page.reader).escape -/
def lc57 : LCode := .seq (.reg []
  [o1 2 (.assign (.const (.string { data := #[] })))]) (.seq (.seq (.reg []
  [o1 7 (.move (.tmp 0)),
  o1 8 (.nilCheck (.tmp 7)),
  o1 9 (.fieldAddr 52 (.tmp 8) 0),
  o1 10 (.load 9 (.tmp 9)),
  o1 11 (.binOp .eql 9 (.tmp 10) (.const (.string { data := #[] })) 9)]) (.cond (.tmp 11) (.seq (.reg []
  [o1 12 (.move (.tmp 0)),
  o1 13 (.call ⟨.value (.func 18), #[.tmp 12, .const (.int .i64 2)], #[50, 30]⟩)]) (.seq (.reg []
  [o1 2 (.assign (.const (.string { data := #[] })))]) (.ret))) (.skip))) (.seq (.reg []
  [o1 14 (.move (.tmp 0)),
  o1 15 (.nilCheck (.tmp 14)),
  o1 16 (.fieldAddr 52 (.tmp 15) 0),
  o1 17 (.load 9 (.tmp 16)),
  o1 18 (.index 9 (.tmp 17) (.const (.int .i64 0))),
  o1 3 (.assign (.tmp 18))]) (.seq (.reg []
  [o1 19 (.move (.tmp 0)),
  o1 20 (.move (.tmp 0)),
  o1 21 (.nilCheck (.tmp 20)),
  o1 22 (.fieldAddr 52 (.tmp 21) 0),
  o1 23 (.load 9 (.tmp 22)),
  o1 24 (.slice 9 (.tmp 23) (some (.const (.int .i64 1))) none none),
  o1 25 (.nilCheck (.tmp 19)),
  o1 26 (.fieldAddr 52 (.tmp 25) 0),
  o3 (.store 9 (.tmp 26) (.tmp 24))]) (.seq (.seq (.reg []
  [o1 27 (.move (.tmp 3)),
  o1 28 (.call ⟨.value (.func 81), #[.const (.string { data := #[34, 92, 47, 98, 102, 110, 114, 116] }), .tmp 27], #[9, 5]⟩),
  o1 4 (.assign (.tmp 28))]) (.seq (.reg []
  [o1 29 (.move (.tmp 4)),
  o1 30 (.binOp .geq 3 (.tmp 29) (.const (.int .i64 0)) 3)]) (.cond (.tmp 30) (.seq (.reg []
  [o1 31 (.move (.tmp 4)),
  o1 32 (.move (.tmp 4)),
  o1 33 (.binOp .add 3 (.tmp 32) (.const (.int .i64 1)) 3),
  o1 34 (.slice 9 (.const (.string { data := #[34, 92, 47, 8, 12, 10, 13, 9] })) (some (.tmp 31)) (some (.tmp 33)) none),
  o1 2 (.assign (.tmp 34))]) (.ret)) (.skip)))) (.seq (.seq (.reg []
  [o1 35 (.move (.tmp 3)),
  o1 36 (.binOp .neq 5 (.tmp 35) (.const (.int .u8 117)) 5),
  o1 37 (.move (.tmp 36)),
  o2 38 (.move (.tmp 0)) 37 false,
  o2 39 (.nilCheck (.tmp 38)) 37 false,
  o2 40 (.fieldAddr 52 (.tmp 39) 0) 37 false,
  o2 41 (.load 9 (.tmp 40)) 37 false,
  o2 42 (.call ⟨.builtin .len, #[.tmp 41], #[9]⟩) 37 false,
  o2 43 (.binOp .lss 3 (.tmp 42) (.const (.int .i64 4)) 3) 37 false,
  o1 44 (.pick (.tmp 37) (.const (.bool true)) (.tmp 43)),
  o1 45 (.move (.tmp 44)),
  o2 46 (.move (.tmp 0)) 45 false,
  o2 47 (.nilCheck (.tmp 46)) 45 false,
  o2 48 (.fieldAddr 52 (.tmp 47) 0) 45 false,
  o2 49 (.load 9 (.tmp 48)) 45 false,
  o2 50 (.slice 9 (.tmp 49) none (some (.const (.int .i64 4))) none) 45 false,
  o2 51 (.call ⟨.value (.func 82), #[.tmp 50, .const (.string { data := #[48, 49, 50, 51, 52, 53, 54, 55, 56, 57, 97, 98, 99, 100, 101, 102, 65, 66, 67, 68, 69, 70] })], #[9, 9]⟩) 45 false,
  o2 52 (.binOp .neq 9 (.tmp 51) (.const (.string { data := #[] })) 9) 45 false,
  o1 53 (.pick (.tmp 45) (.const (.bool true)) (.tmp 52))]) (.cond (.tmp 53) (.seq (.reg []
  [o1 54 (.move (.tmp 0)),
  o1 55 (.call ⟨.value (.func 18), #[.tmp 54, .const (.int .i64 2)], #[50, 30]⟩)]) (.seq (.reg []
  [o1 2 (.assign (.const (.string { data := #[] })))]) (.ret))) (.skip))) (.seq (.reg []
  [o1 57 (.move (.tmp 0)),
  o1 58 (.nilCheck (.tmp 57)),
  o1 59 (.fieldAddr 52 (.tmp 58) 0),
  o1 60 (.load 9 (.tmp 59)),
  o1 61 (.slice 9 (.tmp 60) none (some (.const (.int .i64 4))) none),
  o1 62 (.call ⟨.value (.func 83), #[.tmp 61, .const (.int .i64 16), .const (.int .i64 32)], #[9, 3, 3]⟩),
  o1 56 (.move (.tmp 62)),
  o1 63 (.extract (.tmp 56) 0),
  o1 64 (.extract (.tmp 56) 1),
  o1 5 (.assign (.tmp 63)),
  o1 6 (.assign (.tmp 64))]) (.seq (.reg []
  [o1 65 (.move (.tmp 0)),
  o1 66 (.move (.tmp 0)),
  o1 67 (.nilCheck (.tmp 66)),
  o1 68 (.fieldAddr 52 (.tmp 67) 0),
  o1 69 (.load 9 (.tmp 68)),
  o1 70 (.slice 9 (.tmp 69) (some (.const (.int .i64 4))) none none),
  o1 71 (.nilCheck (.tmp 65)),
  o1 72 (.fieldAddr 52 (.tmp 71) 0),
  o3 (.store 9 (.tmp 72) (.tmp 70))]) (.seq (.seq (.reg []
  [o1 73 (.move (.tmp 5)),
  o1 74 (.binOp .geq 128 (.tmp 73) (.const (.int .u64 55296)) 128),
  o1 75 (.move (.tmp 74)),
  o2 76 (.move (.tmp 5)) 75 true,
  o2 77 (.binOp .lss 128 (.tmp 76) (.const (.int .u64 57344)) 128) 75 true,
  o1 78 (.pick (.tmp 75) (.tmp 77) (.const (.bool false)))]) (.cond (.tmp 78) (.seq (.reg []
  [o1 79 (.move (.tmp 0)),
  o1 80 (.call ⟨.value (.func 18), #[.tmp 79, .const (.int .i64 2)], #[50, 30]⟩)]) (.seq (.reg []
  [o1 2 (.assign (.const (.string { data := #[] })))]) (.ret))) (.skip))) (.seq (.reg []
  [o1 81 (.move (.tmp 5)),
  o1 82 (.convert 128 21 (.tmp 81)),
  o1 83 (.convert 21 9 (.tmp 82)),
  o1 2 (.assign (.tmp 83))]) (.ret))))))))))
theorem ls57 : Tryz.f57.body.map (strip Tryz.prog impCodP) = some lc57 := by kernel_rfl
theorem lcall57 : LC 57 84 lc57 [.tmp 2] := LC.of Tryz.func57 (by kernel_rfl) ls57 (by kernel_rfl) (by kernel_rfl)
/-- (*escutcheon/page.reader).text -/
def lc31 : LCode := .seq (.reg []
  [o1 2 (.assign (.const (.string { data := #[] })))]) (.seq (.reg []
  [o1 3 (.alloc 91)]) (.seq (.block 0 (.loop (.seq (.seq (.reg []
  [o1 7 (.move (.tmp 0)),
  o1 8 (.nilCheck (.tmp 7)),
  o1 9 (.fieldAddr 52 (.tmp 8) 1),
  o1 10 (.load 30 (.tmp 9)),
  o1 11 (.binOp .eql 30 (.tmp 10) (.const (.int .i64 0)) 30)]) (.cond (.tmp 11) (.skip) (.exit 0))) (.block 1 (.seq (.reg []
  [o1 12 (.move (.tmp 0)),
  o1 13 (.nilCheck (.tmp 12)),
  o1 14 (.fieldAddr 52 (.tmp 13) 0),
  o1 15 (.load 9 (.tmp 14)),
  o1 16 (.call ⟨.value (.func 54), #[.tmp 15, .func 55], #[9, 105]⟩),
  o1 4 (.assign (.tmp 16))]) (.seq (.seq (.reg []
  [o1 17 (.move (.tmp 4)),
  o1 18 (.binOp .lss 3 (.tmp 17) (.const (.int .i64 0)) 3)]) (.cond (.tmp 18) (.seq (.reg []
  [o1 19 (.move (.tmp 0)),
  o1 20 (.call ⟨.value (.func 18), #[.tmp 19, .const (.int .i64 2)], #[50, 30]⟩)]) (.exit 0)) (.skip))) (.seq (.reg []
  [o1 21 (.move (.tmp 0)),
  o1 22 (.nilCheck (.tmp 21)),
  o1 23 (.fieldAddr 52 (.tmp 22) 0),
  o1 24 (.load 9 (.tmp 23)),
  o1 25 (.move (.tmp 4)),
  o1 26 (.slice 9 (.tmp 24) none (some (.tmp 25)) none),
  o1 27 (.call ⟨.value (.func 48), #[.tmp 3, .tmp 26], #[91, 9]⟩)]) (.seq (.reg []
  [o1 28 (.move (.tmp 0)),
  o1 29 (.move (.tmp 0)),
  o1 30 (.nilCheck (.tmp 29)),
  o1 31 (.fieldAddr 52 (.tmp 30) 0),
  o1 32 (.load 9 (.tmp 31)),
  o1 33 (.move (.tmp 4)),
  o1 34 (.slice 9 (.tmp 32) (some (.tmp 33)) none none),
  o1 35 (.nilCheck (.tmp 28)),
  o1 36 (.fieldAddr 52 (.tmp 35) 0),
  o3 (.store 9 (.tmp 36) (.tmp 34))]) (.seq (.reg []
  [o1 38 (.move (.tmp 0)),
  o1 39 (.nilCheck (.tmp 38)),
  o1 40 (.fieldAddr 52 (.tmp 39) 0),
  o1 41 (.load 9 (.tmp 40)),
  o1 42 (.call ⟨.value (.func 56), #[.tmp 41], #[9]⟩),
  o1 37 (.move (.tmp 42)),
  o1 43 (.extract (.tmp 37) 0),
  o1 44 (.extract (.tmp 37) 1),
  o1 5 (.assign (.tmp 43)),
  o1 6 (.assign (.tmp 44))]) (.block 2 (.seq (.reg []
  [o1 48 (.move (.tmp 5)),
  o1 49 (.binOp .eql 21 (.tmp 48) (.const (.int .i32 65533)) 21),
  o1 50 (.move (.tmp 49)),
  o2 51 (.move (.tmp 6)) 50 true,
  o2 52 (.binOp .gtr 3 (.tmp 51) (.const (.int .i64 1)) 3) 50 true,
  o1 53 (.pick (.tmp 50) (.tmp 52) (.const (.bool false))),
  o1 47 (.assign (.tmp 53))]) (.cond (.tmp 47) (.seq (.reg []
  [o1 54 (.move (.tmp 0)),
  o1 55 (.nilCheck (.tmp 54)),
  o1 56 (.fieldAddr 52 (.tmp 55) 0),
  o1 57 (.load 9 (.tmp 56)),
  o1 58 (.move (.tmp 6)),
  o1 59 (.slice 9 (.tmp 57) none (some (.tmp 58)) none),
  o1 60 (.call ⟨.value (.func 48), #[.tmp 3, .tmp 59], #[91, 9]⟩)]) (.reg []
  [o1 61 (.move (.tmp 0)),
  o1 62 (.move (.tmp 0)),
  o1 63 (.nilCheck (.tmp 62)),
  o1 64 (.fieldAddr 52 (.tmp 63) 0),
  o1 65 (.load 9 (.tmp 64)),
  o1 66 (.move (.tmp 6)),
  o1 67 (.slice 9 (.tmp 65) (some (.tmp 66)) none none),
  o1 68 (.nilCheck (.tmp 61)),
  o1 69 (.fieldAddr 52 (.tmp 68) 0),
  o3 (.store 9 (.tmp 69) (.tmp 67))])) (.seq (.reg []
  [o1 71 (.move (.tmp 0)),
  o1 72 (.call ⟨.value (.func 30), #[.tmp 71, .const (.string { data := #[34] })], #[50, 9]⟩),
  o1 70 (.assign (.tmp 72))]) (.cond (.tmp 70) (.seq (.reg []
  [o1 73 (.call ⟨.value (.func 50), #[.tmp 3], #[91]⟩),
  o1 2 (.assign (.tmp 73))]) (.ret)) (.seq (.reg []
  [o1 75 (.move (.tmp 0)),
  o1 76 (.call ⟨.value (.func 30), #[.tmp 75, .const (.string { data := #[92] })], #[50, 9]⟩),
  o1 74 (.assign (.tmp 76))]) (.cond (.tmp 74) (.reg []
  [o1 77 (.move (.tmp 0)),
  o1 78 (.call ⟨.value (.func 57), #[.tmp 77], #[50]⟩),
  o1 79 (.call ⟨.value (.func 48), #[.tmp 3, .tmp 78], #[91, 9]⟩)]) (.reg []
  [o1 45 (.move (.tmp 0)),
  o1 46 (.call ⟨.value (.func 18), #[.tmp 45, .const (.int .i64 2)], #[50, 30]⟩)]))))))))))))))))) (.seq (.reg []
  [o1 2 (.assign (.const (.string { data := #[] })))]) (.ret))))
def ms31_0 : List Nat := [1, 2, 4, 5, 6, 7, 8, 9, 10, 11, 12, 13, 14, 15, 16, 17, 18, 19, 20, 21, 22, 23, 24, 25, 26, 27, 28, 29, 30, 31, 32, 33, 34, 35, 36, 37, 38, 39, 40, 41, 42, 43, 44, 45, 46, 47, 48, 49, 50, 51, 52, 53, 54, 55, 56, 57, 58, 59, 60, 61, 62, 63, 64, 65, 66, 67, 68, 69, 70, 71, 72, 73, 74, 75, 76, 77, 78, 79]
theorem ls31 : Tryz.f31.body.map (strip Tryz.prog impCodP) = some lc31 := by kernel_rfl
theorem lcall31 : LC 31 80 lc31 [.tmp 2] := LC.of Tryz.func31 (by kernel_rfl) ls31 (by kernel_rfl) (by kernel_rfl)
/-- (*escutcheon/page.reader).text$1 -/
def lc55 : LCode := .seq (.reg []
  [o1 2 (.assign (.const (.bool false)))]) (.seq (.reg []
  [o1 3 (.move (.tmp 0)),
  o1 4 (.binOp .eql 21 (.tmp 3) (.const (.int .i32 34)) 21),
  o1 5 (.move (.tmp 4)),
  o2 6 (.move (.tmp 0)) 5 false,
  o2 7 (.binOp .eql 21 (.tmp 6) (.const (.int .i32 92)) 21) 5 false,
  o1 8 (.pick (.tmp 5) (.const (.bool true)) (.tmp 7)),
  o1 9 (.move (.tmp 8)),
  o2 10 (.move (.tmp 0)) 9 false,
  o2 11 (.binOp .lss 21 (.tmp 10) (.const (.int .i32 32)) 21) 9 false,
  o1 12 (.pick (.tmp 9) (.const (.bool true)) (.tmp 11)),
  o1 13 (.move (.tmp 12)),
  o2 14 (.move (.tmp 0)) 13 false,
  o2 15 (.binOp .eql 21 (.tmp 14) (.const (.int .i32 65533)) 21) 13 false,
  o1 16 (.pick (.tmp 13) (.const (.bool true)) (.tmp 15)),
  o1 2 (.assign (.tmp 16))]) (.ret))
theorem ls55 : Tryz.f55.body.map (strip Tryz.prog impCodP) = some lc55 := by kernel_rfl
theorem lcall55 : LC 55 17 lc55 [.tmp 2] := LC.of Tryz.func55 (by kernel_rfl) ls55 (by kernel_rfl) (by kernel_rfl)
/-- (*escutcheon/page.reader).name -/
def lc58 : LCode := .seq (.reg []
  [o1 4 (.assign (.const (.string { data := #[] })))]) (.seq (.reg []
  [o1 6 (.move (.tmp 0)),
  o1 7 (.call ⟨.value (.func 17), #[.tmp 6], #[50]⟩)]) (.seq (.seq (.reg []
  [o1 8 (.move (.tmp 0)),
  o1 9 (.call ⟨.value (.func 30), #[.tmp 8, .const (.string { data := #[34] })], #[50, 9]⟩),
  o1 10 (.unOp .not 4 (.tmp 9))]) (.cond (.tmp 10) (.reg []
  [o1 11 (.move (.tmp 0)),
  o1 12 (.call ⟨.value (.func 18), #[.tmp 11, .const (.int .i64 2)], #[50, 30]⟩)]) (.skip))) (.seq (.reg []
  [o1 13 (.move (.tmp 0)),
  o1 14 (.call ⟨.value (.func 31), #[.tmp 13], #[50]⟩),
  o1 5 (.assign (.tmp 14))]) (.seq (.seq (.reg []
  [o1 15 (.move (.tmp 0)),
  o1 16 (.nilCheck (.tmp 15)),
  o1 17 (.fieldAddr 52 (.tmp 16) 1),
  o1 18 (.load 30 (.tmp 17)),
  o1 19 (.binOp .eql 30 (.tmp 18) (.const (.int .i64 0)) 30),
  o1 20 (.move (.tmp 19)),
  o2 21 (.move (.tmp 1)) 20 true,
  o2 22 (.move (.tmp 5)) 20 true,
  o2 23 (.call ⟨.value (.func 84), #[.tmp 21, .tmp 22], #[26, 9]⟩) 20 true,
  o1 24 (.pick (.tmp 20) (.tmp 23) (.const (.bool false)))]) (.cond (.tmp 24) (.reg []
  [o1 25 (.move (.tmp 0)),
  o1 26 (.call ⟨.value (.func 18), #[.tmp 25, .const (.int .i64 10)], #[50, 30]⟩)]) (.skip))) (.seq (.reg []
  [o1 27 (.move (.tmp 0)),
  o1 28 (.call ⟨.value (.func 17), #[.tmp 27], #[50]⟩)]) (.seq (.seq (.reg []
  [o1 29 (.move (.tmp 0)),
  o1 30 (.call ⟨.value (.func 30), #[.tmp 29, .const (.string { data := #[58] })], #[50, 9]⟩),
  o1 31 (.unOp .not 4 (.tmp 30))]) (.cond (.tmp 31) (.reg []
  [o1 32 (.move (.tmp 0)),
  o1 33 (.call ⟨.value (.func 18), #[.tmp 32, .const (.int .i64 2)], #[50, 30]⟩)]) (.skip))) (.seq (.reg []
  [o1 34 (.move (.tmp 5)),
  o1 4 (.assign (.tmp 34))]) (.ret))))))))
theorem ls58 : Tryz.f58.body.map (strip Tryz.prog impCodP) = some lc58 := by kernel_rfl
theorem lcall58 : LC 58 35 lc58 [.tmp 4] := LC.of Tryz.func58 (by kernel_rfl) ls58 (by kernel_rfl) (by kernel_rfl)
/-- (*escutcheon/page.reader).parts -/
def lc32 : LCode := .seq (.reg []
  [o1 5 (.box 29 (.tmp 1)),
  o1 8 (.alloc 29)]) (.seq (.reg []
  [o1 9 (.move (.tmp 0)),
  o1 10 (.call ⟨.value (.func 17), #[.tmp 9], #[50]⟩)]) (.seq (.seq (.reg []
  [o1 11 (.move (.tmp 0)),
  o1 12 (.move (.tmp 2)),
  o1 13 (.call ⟨.value (.func 30), #[.tmp 11, .tmp 12], #[50, 9]⟩)]) (.cond (.tmp 13) (.seq (.reg []
  [o1 14 (.load 29 (.tmp 5)),
  o3 (.store 29 (.tmp 8) (.tmp 14))]) (.ret)) (.skip))) (.seq (.block 0 (.loop (.seq (.seq (.reg []
  [o1 15 (.move (.tmp 0)),
  o1 16 (.nilCheck (.tmp 15)),
  o1 17 (.fieldAddr 52 (.tmp 16) 1),
  o1 18 (.load 30 (.tmp 17)),
  o1 19 (.binOp .eql 30 (.tmp 18) (.const (.int .i64 0)) 30)]) (.cond (.tmp 19) (.skip) (.exit 0))) (.block 1 (.seq (.seq (.reg []
  [o1 20 (.fieldAddr 29 (.tmp 5) 3),
  o1 21 (.load 27 (.tmp 20)),
  o1 22 (.call ⟨.builtin .len, #[.tmp 21], #[27]⟩),
  o1 23 (.binOp .geq 3 (.tmp 22) (.const (.int .i64 64)) 3)]) (.cond (.tmp 23) (.reg []
  [o1 24 (.move (.tmp 0)),
  o1 25 (.call ⟨.value (.func 18), #[.tmp 24, .const (.int .i64 11)], #[50, 30]⟩)]) (.skip))) (.seq (.seq (.reg []
  [o1 26 (.fieldAddr 29 (.tmp 5) 0),
  o1 27 (.load 25 (.tmp 26)),
  o1 28 (.binOp .eql 25 (.tmp 27) (.const (.int .i64 6)) 25)]) (.cond (.tmp 28) (.regl [o1 29 (.fieldAddr 29 (.tmp 5) 2),
  o1 30 (.load 26 (.tmp 29)),
  o1 31 (.move (.tmp 0)),
  o1 32 (.fieldAddr 29 (.tmp 5) 2),
  o1 33 (.load 26 (.tmp 32))]
  []
  [o1 34 (.call ⟨.value (.func 58), #[.tmp 31, .tmp 33], #[50, 26]⟩),
  o1 35 (.buildSlice 26 1 #[(0, .tmp 34)])]
  [o1 36 (.call ⟨.builtin .append, #[.tmp 30, .tmp 35], #[26, 26]⟩),
  o1 37 (.fieldAddr 29 (.tmp 5) 2),
  o3 (.store 26 (.tmp 37) (.tmp 36))]) (.skip))) (.seq (.regl [o1 38 (.fieldAddr 29 (.tmp 5) 3),
  o1 39 (.load 27 (.tmp 38)),
  o1 40 (.move (.tmp 0)),
  o1 41 (.move (.tmp 3)),
  o1 42 (.binOp .add 3 (.tmp 41) (.const (.int .i64 1)) 3)]
  []
  [o1 43 (.call ⟨.value (.func 16), #[.tmp 40, .tmp 42], #[50, 3]⟩),
  o1 44 (.buildSlice 27 1 #[(0, .tmp 43)])]
  [o1 45 (.call ⟨.builtin .append, #[.tmp 39, .tmp 44], #[27, 27]⟩),
  o1 46 (.fieldAddr 29 (.tmp 5) 3),
  o3 (.store 27 (.tmp 46) (.tmp 45))]) (.seq (.reg []
  [o1 47 (.move (.tmp 0)),
  o1 48 (.call ⟨.value (.func 17), #[.tmp 47], #[50]⟩)]) (.seq (.seq (.reg []
  [o1 49 (.move (.tmp 0)),
  o1 50 (.move (.tmp 2)),
  o1 51 (.call ⟨.value (.func 30), #[.tmp 49, .tmp 50], #[50, 9]⟩)]) (.cond (.tmp 51) (.seq (.reg []
  [o1 52 (.load 29 (.tmp 5)),
  o3 (.store 29 (.tmp 8) (.tmp 52))]) (.ret)) (.skip))) (.seq (.reg []
  [o1 53 (.move (.tmp 0)),
  o1 54 (.call ⟨.value (.func 30), #[.tmp 53, .const (.string { data := #[44] })], #[50, 9]⟩),
  o1 55 (.unOp .not 4 (.tmp 54))]) (.cond (.tmp 55) (.reg []
  [o1 56 (.move (.tmp 0)),
  o1 57 (.call ⟨.value (.func 18), #[.tmp 56, .const (.int .i64 2)], #[50, 30]⟩)]) (.skip)))))))))))) (.seq (.reg []
  [o1 58 (.build 29 #[]),
  o3 (.store 29 (.tmp 8) (.tmp 58))]) (.ret)))))
def ms32_0 : List Nat := [1, 4, 6, 7, 9, 10, 11, 12, 13, 14, 15, 16, 17, 18, 19, 20, 21, 22, 23, 24, 25, 26, 27, 28, 29, 30, 31, 32, 33, 34, 35, 36, 37, 38, 39, 40, 41, 42, 43, 44, 45, 46, 47, 48, 49, 50, 51, 52, 53, 54, 55, 56, 57]
theorem ls32 : Tryz.f32.body.map (strip Tryz.prog impCodP) = some lc32 := by kernel_rfl
theorem lcall32 : LC 32 59 lc32 [.cell 8 29] := LC.of Tryz.func32 (by kernel_rfl) ls32 (by kernel_rfl) (by kernel_rfl)
/-- (*escutcheon/page.reader).value -/
def lc16 : LCode := .seq (.reg []
  [o1 4 (.alloc 29)]) (.seq (.reg []
  [o1 9 (.move (.tmp 0)),
  o1 10 (.call ⟨.value (.func 17), #[.tmp 9], #[50]⟩)]) (.seq (.seq (.reg []
  [o1 11 (.move (.tmp 1)),
  o1 12 (.binOp .gtr 3 (.tmp 11) (.const (.int .i64 8)) 3),
  o1 13 (.move (.tmp 12)),
  o2 14 (.move (.tmp 0)) 13 true,
  o2 15 (.nilCheck (.tmp 14)) 13 true,
  o2 16 (.fieldAddr 52 (.tmp 15) 0) 13 true,
  o2 17 (.load 9 (.tmp 16)) 13 true,
  o2 18 (.binOp .neq 9 (.tmp 17) (.const (.string { data := #[] })) 9) 13 true,
  o1 19 (.pick (.tmp 13) (.tmp 18) (.const (.bool false)))]) (.cond (.tmp 19) (.reg []
  [o1 20 (.move (.tmp 0)),
  o1 21 (.call ⟨.value (.func 18), #[.tmp 20, .const (.int .i64 9)], #[50, 30]⟩)]) (.skip))) (.seq (.seq (.reg []
  [o1 22 (.load 70 (.global 0)),
  o1 23 (.move (.const (.int .i64 0)))]) (.block 0 (.loop (.seq (.reg []
  [o1 24 (.binOp .lss 3 (.tmp 23) (.const (.int .i64 3)) 3)]) (.seq (.cond (.tmp 24) (.skip) (.exit 0)) (.seq (.block 1 (.seq (.reg []
  [o1 25 (.move (.tmp 23)),
  o1 26 (.index 70 (.tmp 22) (.tmp 23)),
  o1 5 (.assign (.tmp 25)),
  o1 6 (.assign (.tmp 26))]) (.seq (.reg []
  [o1 27 (.move (.tmp 0)),
  o1 28 (.move (.tmp 6)),
  o1 29 (.call ⟨.value (.func 30), #[.tmp 27, .tmp 28], #[50, 9]⟩)]) (.cond (.tmp 29) (.seq (.reg []
  [o1 30 (.move (.tmp 5)),
  o1 31 (.build 29 #[(0, .tmp 30)]),
  o3 (.store 29 (.tmp 4) (.tmp 31))]) (.ret)) (.skip))))) (.reg []
  [o1 32 (.binOp .add 3 (.tmp 23) (.const (.int .i64 1)) 3),
  o1 23 (.move (.tmp 32))]))))))) (.seq (.block 2 (.seq (.reg []
  [o1 34 (.move (.tmp 0)),
  o1 35 (.call ⟨.value (.func 30), #[.tmp 34, .const (.string { data := #[34] })], #[50, 9]⟩),
  o1 33 (.assign (.tmp 35))]) (.cond (.tmp 33) (.seq (.reg []
  [o1 36 (.move (.tmp 0)),
  o1 37 (.call ⟨.value (.func 31), #[.tmp 36], #[50]⟩),
  o1 38 (.build 29 #[(0, .const (.int .i64 4)), (1, .tmp 37)]),
  o3 (.store 29 (.tmp 4) (.tmp 38))]) (.ret)) (.seq (.reg []
  [o1 40 (.move (.tmp 0)),
  o1 41 (.call ⟨.value (.func 30), #[.tmp 40, .const (.string { data := #[91] })], #[50, 9]⟩),
  o1 39 (.assign (.tmp 41))]) (.cond (.tmp 39) (.seq (.reg []
  [o1 42 (.move (.tmp 0)),
  o1 43 (.build 29 #[(0, .const (.int .i64 5))]),
  o1 44 (.move (.tmp 1)),
  o1 45 (.call ⟨.value (.func 32), #[.tmp 42, .tmp 43, .const (.string { data := #[93] }), .tmp 44], #[50, 29, 9, 3]⟩),
  o3 (.store 29 (.tmp 4) (.tmp 45))]) (.ret)) (.seq (.reg []
  [o1 47 (.move (.tmp 0)),
  o1 48 (.call ⟨.value (.func 30), #[.tmp 47, .const (.string { data := #[123] })], #[50, 9]⟩),
  o1 46 (.assign (.tmp 48))]) (.cond (.tmp 46) (.seq (.reg []
  [o1 49 (.move (.tmp 0)),
  o1 50 (.build 29 #[(0, .const (.int .i64 6))]),
  o1 51 (.move (.tmp 1)),
  o1 52 (.call ⟨.value (.func 32), #[.tmp 49, .tmp 50, .const (.string { data := #[125] }), .tmp 51], #[50, 29, 9, 3]⟩),
  o3 (.store 29 (.tmp 4) (.tmp 52))]) (.ret)) (.skip)))))))) (.seq (.reg []
  [o1 53 (.move (.tmp 0)),
  o1 54 (.nilCheck (.tmp 53)),
  o1 55 (.fieldAddr 52 (.tmp 54) 0),
  o1 56 (.load 9 (.tmp 55)),
  o1 57 (.call ⟨.value (.func 33), #[.tmp 56], #[9]⟩),
  o1 7 (.assign (.tmp 57))]) (.seq (.seq (.reg []
  [o1 58 (.move (.tmp 7)),
  o1 59 (.binOp .eql 3 (.tmp 58) (.const (.int .i64 0)) 3),
  o1 60 (.move (.tmp 59)),
  o2 61 (.move (.tmp 7)) 60 false,
  o2 62 (.binOp .gtr 3 (.tmp 61) (.const (.int .i64 40)) 3) 60 false,
  o1 63 (.pick (.tmp 60) (.const (.bool true)) (.tmp 62))]) (.cond (.tmp 63) (.seq (.reg []
  [o1 64 (.move (.tmp 0)),
  o1 65 (.call ⟨.value (.func 18), #[.tmp 64, .const (.int .i64 2)], #[50, 30]⟩)]) (.seq (.reg []
  [o1 66 (.build 29 #[]),
  o3 (.store 29 (.tmp 4) (.tmp 66))]) (.ret))) (.skip))) (.seq (.reg []
  [o1 67 (.move (.tmp 0)),
  o1 68 (.nilCheck (.tmp 67)),
  o1 69 (.fieldAddr 52 (.tmp 68) 0),
  o1 70 (.load 9 (.tmp 69)),
  o1 71 (.move (.tmp 7)),
  o1 72 (.slice 9 (.tmp 70) none (some (.tmp 71)) none),
  o1 73 (.build 29 #[(0, .const (.int .i64 3)), (1, .tmp 72)]),
  o1 8 (.alloc 29),
  o3 (.store 29 (.tmp 8) (.tmp 73))]) (.seq (.reg []
  [o1 74 (.move (.tmp 0)),
  o1 75 (.move (.tmp 0)),
  o1 76 (.nilCheck (.tmp 75)),
  o1 77 (.fieldAddr 52 (.tmp 76) 0),
  o1 78 (.load 9 (.tmp 77)),
  o1 79 (.move (.tmp 7)),
  o1 80 (.slice 9 (.tmp 78) (some (.tmp 79)) none none),
  o1 81 (.nilCheck (.tmp 74)),
  o1 82 (.fieldAddr 52 (.tmp 81) 0),
  o3 (.store 9 (.tmp 82) (.tmp 80))]) (.seq (.reg []
  [o1 83 (.load 29 (.tmp 8)),
  o3 (.store 29 (.tmp 4) (.tmp 83))]) (.ret))))))))))
def ms16_0 : List Nat := [2, 3, 5, 6, 9, 10, 11, 12, 13, 14, 15, 16, 17, 18, 19, 20, 21, 23, 24, 25, 26, 27, 28, 29, 30, 31, 32, 65]
theorem ls16 : Tryz.f16.body.map (strip Tryz.prog impCodP) = some lc16 := by kernel_rfl
theorem lcall16 : LC 16 84 lc16 [.cell 4 29] := LC.of Tryz.func16 (by kernel_rfl) ls16 (by kernel_rfl) (by kernel_rfl)
/-- escutcheon/page.Parse -/
def lc7 : LCode := .seq (.reg []
  [o1 2 (.alloc 29),
  o1 3 (.assign (.const (.int .i64 0)))]) (.seq (.reg []
  [o1 6 (.move (.tmp 0)),
  o1 7 (.build 52 #[(0, .tmp 6)]),
  o1 8 (.box 52 (.tmp 7)),
  o1 4 (.assign (.tmp 8))]) (.seq (.reg []
  [o1 9 (.move (.tmp 4)),
  o1 10 (.call ⟨.value (.func 16), #[.tmp 9, .const (.int .i64 1)], #[50, 3]⟩),
  o1 5 (.alloc 29),
  o3 (.store 29 (.tmp 5) (.tmp 10))]) (.seq (.reg []
  [o1 11 (.move (.tmp 4)),
  o1 12 (.call ⟨.value (.func 17), #[.tmp 11], #[50]⟩)]) (.seq (.seq (.reg []
  [o1 13 (.move (.tmp 4)),
  o1 14 (.nilCheck (.tmp 13)),
  o1 15 (.fieldAddr 52 (.tmp 14) 0),
  o1 16 (.load 9 (.tmp 15)),
  o1 17 (.binOp .neq 9 (.tmp 16) (.const (.string { data := #[] })) 9)]) (.cond (.tmp 17) (.reg []
  [o1 18 (.move (.tmp 4)),
  o1 19 (.call ⟨.value (.func 18), #[.tmp 18, .const (.int .i64 2)], #[50, 30]⟩)]) (.skip))) (.seq (.seq (.reg []
  [o1 20 (.move (.tmp 4)),
  o1 21 (.nilCheck (.tmp 20)),
  o1 22 (.fieldAddr 52 (.tmp 21) 1),
  o1 23 (.load 30 (.tmp 22)),
  o1 24 (.binOp .neq 30 (.tmp 23) (.const (.int .i64 0)) 30)]) (.cond (.tmp 24) (.seq (.regl [o1 26 (.move (.tmp 4)),
  o1 27 (.nilCheck (.tmp 26)),
  o1 28 (.fieldAddr 52 (.tmp 27) 1),
  o1 29 (.load 30 (.tmp 28))]
  []
  [o1 25 (.build 29 #[]),
  o3 (.store 29 (.tmp 2) (.tmp 25))]
  [o1 3 (.assign (.tmp 29))]) (.ret)) (.skip))) (.seq (.reg []
  [o1 30 (.load 29 (.tmp 5)),
  o3 (.store 29 (.tmp 2) (.tmp 30)),
  o1 3 (.assign (.const (.int .i64 0)))]) (.ret)))))))
theorem ls7 : Tryz.f7.body.map (strip Tryz.prog impCodP) = some lc7 := by kernel_rfl
theorem lcall7 : LC 7 31 lc7 [.cell 2 29, .tmp 3] := LC.of Tryz.func7 (by kernel_rfl) ls7 (by kernel_rfl) (by kernel_rfl)
end Go.Abs.S
namespace Go.Abs
open Go.Proofs Go.RowKit
set_option linter.unusedVariables false
variable {P : Program} {G : Glob} {σ : Sig} {H : AHeap} {w w' : World}
/-- What lay there stays. -/
theorem Rel.below (rel : Rel G σ H w) (b : Below w.heap.size w w') : Rel G σ H w' ∧ Ext σ H w σ H w' ∧ (∀ x u, AR σ w x u → AR σ w' x u) ∧ Quiet σ H w σ w' := by
  have hm : ∀ x u, AR σ w x u → AR σ w' x u := fun x u h => AR.mono (σ := σ) (σ' := σ) (fun _ _ _ h => h) (fun _ h => h) (fun B hB => b.block B (rel.roLt B hB)) h
  refine ⟨⟨fun k kb l g1 g2 g3 => ?_, rel.inj, rel.apart, fun B hB => Nat.lt_of_lt_of_le (rel.roLt B hB) b.size, rel.fresh, fun g => hm _ _ (rel.glob g), rel.base0⟩,
    ⟨b.os, b.tape, b.output, b.size, fun _ _ _ h => h, fun _ h => h, fun B hB _ => b.block B hB, fun _ _ _ h => .inl h, fun k kb l g1 g2 _ => ⟨kb, g1, g2, rfl⟩, fun B h => .inl h, Nat.le_refl _⟩, hm, ⟨fun B hB => .same (b.block B hB), fun _ _ _ h => .inl h⟩⟩
  obtain ⟨C, fr, c1, c2, c3, c4, c5⟩ := rel.blk k kb l g1 g2 g3
  refine ⟨C, fr, by rw [b.block _ (Array.getElem?_eq_some_iff.1 c1).1]; exact c1, c2, c3, c4, fun j hj => ?_⟩
  obtain ⟨v, e1, e2⟩ := c5 j hj
  exact ⟨v, e1, hm _ _ e2⟩
/-- A contract of the library's, of plain values. -/
theorem PCall.shelf {n : FuncId} {args : List AV} {xs : List Value} {r : AV} {v : Value} (hc : Callable P n) (hl : xs.length = args.length) (his : ∀ j, j < args.length → ∀ (σ : Sig) (w : World) (u : Value), AR σ w (args.getD j .any) u → u = xs.getD j undef)
    (hr : ∀ (σ : Sig) (w : World), AR σ w r v) (h : ∀ (σ : Sig) (H : AHeap) (w : World), Rel G σ H w → Calls P n xs.toArray w fun e w' => e = .returned v ∧ Below w.heap.size w w') : PCall P G n args r := fun H => by
  refine ⟨hc, fun σ w us hu ha rel => ?_⟩
  have e : us = xs.toArray := by
    refine Array.ext (by simpa [hl] using hu) fun j h1 h2 => ?_
    have hj : j < args.length := by omega
    have := his j hj σ w _ (ha j hj)
    rw [Array.getD_eq_getD_getElem?, Array.getElem?_eq_getElem h1, Option.getD_some] at this
    rw [this, List.getD_eq_getElem?_getD, List.getElem?_eq_getElem (by omega), Option.getD_some, List.getElem_toArray]
  subst e
  refine (h σ H w rel).mono ?_
  rintro e w' ⟨rfl, hb⟩
  obtain ⟨r1, x1, _, q1⟩ := rel.below hb
  exact ⟨v, rfl, σ, hr σ w', r1, x1, fun _ => q1⟩
theorem is_v (x : Value) (σ : Sig) (w : World) (u : Value) (h : AR σ w (.v x) u) : u = x := by
  cases h
  rfl
theorem is_f (f : Fn) (σ : Sig) (w : World) (u : Value) (h : AR σ w (.fn f []) u) : u = .func f #[] #[] := by
  cases h with
  | fn us hl ha =>
    have : us = #[] := Array.eq_empty_of_size_eq_zero hl
    rw [this]
theorem tup2 (a b : Value) (σ : Sig) (w : World) : AR σ w (.tup [.v a, .v b]) (.tuple #[a, b]) := .tup _ rfl fun j hj => by
  match j, hj with
  | 0, _ => exact .v _
  | 1, _ => exact .v _
/-- A variable's cells. -/
theorem glob_cells {g : Nat} {k : IntKind} {lay : List Int} (hg : G g = .vptr (ints k lay) 0) (rel : Rel G σ H w) (j : Nat) (hj : j < lay.length) : w.cell? ⟨g, j, none⟩ = some (.int k (lay.getD j 0)) := by
  have h := rel.glob g
  rw [hg] at h
  generalize hu : Value.pointer (some ⟨g, 0, none⟩) = u at h
  cases h with
  | vptr B o v hr hm ha =>
    simp only [Nat.add_zero, Value.pointer.injEq, Option.some.injEq, Addr.mk.injEq] at hu
    obtain ⟨rfl, rfl, _⟩ := hu
    have h1 := hm j (by rw [ints_length]; exact hj)
    have h2 := ha j (by rw [ints_length]; exact hj)
    rw [ints_get hj] at h2
    rw [Nat.zero_add] at h1
    rw [h1]
    generalize v j = y at *
    cases h2
    rfl
/-- A call that reads alone, in any memory whose variables are so. -/
theorem PCall.at (hG : GN G) {n : FuncId} {args : List AV} {v : Value} (h : PCall P G n args (.v v)) (rel : Rel G σ H w) (us : Array Value) (hu : us.size = args.length) (ha : ∀ j, j < args.length → AR ⟨fun _ _ => none, σ.ro⟩ w (args.getD j .any) (us.getD j undef)) : Calls P n us w fun e w' => e = .returned v ∧ Below w.heap.size w w' := by
  refine ((h []).2 ⟨fun _ _ => none, σ.ro⟩ w us hu ha (rel.none hG)).mono ?_
  rintro e w' ⟨u, rfl, σ1, a1, a2, a3, _⟩
  cases a1
  exact ⟨rfl, a3.os, a3.tape, a3.output, a3.size, fun B hB => a3.frame B hB noImg⟩
end Go.Abs
namespace Go.Abs.S
attribute [local go_sem] lguard aopO aop aenv toAV tput aLoad aStore vcells aBin aNilI aUn aAlloc aBox aBuild aBSlice afill aConv isIntT aappZ aCap aArr aMM aMake aSlice bnd3 bnd aFldAddr aFld aIdxAddr aIdx aExt aLen aCopy aEq0 bAV aUb aapp aappQ agh acont List.getD_cons_zero List.getD_cons_succ List.set_cons_zero List.set_cons_succ List.getElem?_cons_zero List.getElem?_cons_succ List.length_cons List.length_nil List.map_cons List.map_nil ints_length if_true if_false Bool.false_eq_true true_and and_true eq_self ne_eq not_false_eq_true not_true_eq_false beq_self_eq_true Nat.zero_add Nat.add_zero Nat.mul_one Nat.zero_mul Int.toNat_natCast List.toList_toArray List.all_cons List.all_nil AV.one Value.oneCell' Bool.and_true Bool.true_and forall_const true_implies false_implies implies_true Option.map_some Option.map_none Option.isSome_some Option.isSome_none imp_self rdP_flat rdP_row splice_one ints_set ints_get List.append_nil List.cons_append List.nil_append List.getElem?_toArray List.drop_zero ints_drop ints_take List.take_of_length_le splice_all ints_one Option.some.injEq Option.getD_some List.length_replicate zArr List.map_replicate rep_ints splice_intsR List.length_set List.length_append List.flatten_replicate_singleton rep_slice rep_string rep_bool rep_iface List.replicate_zero if_pos if_neg List.mapM_cons List.mapM_nil Option.pure_def Option.bind_eq_bind Option.bind_some Bool.true_eq_false Bool.not_false Bool.not_true get_concat set_concat
open Go.Proofs Go.RowKit
set_option linter.unusedVariables false
set_option linter.unusedSimpArgs false
set_option maxRecDepth 100000
set_option maxHeartbeats 4000000
theorem is2 {a b : AV} {x y : Value} (ha : ∀ (σ : Sig) (w : World) (u : Value), AR σ w a u → u = x) (hb : ∀ (σ : Sig) (w : World) (u : Value), AR σ w b u → u = y) : ∀ j, j < [a, b].length → ∀ (σ : Sig) (w : World) (u : Value), AR σ w ([a, b].getD j .any) u → u = [x, y].getD j undef
  | 0, _ => ha
  | 1, _ => hb
theorem is1 {a : AV} {x : Value} (ha : ∀ (σ : Sig) (w : World) (u : Value), AR σ w a u → u = x) : ∀ j, j < [a].length → ∀ (σ : Sig) (w : World) (u : Value), AR σ w ([a].getD j .any) u → u = [x].getD j undef
  | 0, _ => ha
theorem cut_p (l p : List UInt8) : PCall Tryz.prog glob 53 [.v (.string (bs l)), .v (.string (bs p))] (.tup [.v (.string (bs (if p.isPrefixOf l = true then l.drop p.length else l))), .v (.bool (p.isPrefixOf l))]) :=
  PCall.shelf ⟨_, Tryz.func53, by kernel_rfl, by kernel_rfl⟩ rfl (is2 (is_v _) (is_v _)) (tup2 _ _) fun σ H w _ => (Tryz.strings_CutPrefix (bs l) (bs p) w).mono fun e w' ⟨h1, h2⟩ => ⟨h1, h2 ▸ Below.refl _ _⟩
def blanks4 : List UInt8 := [32, 9, 10, 13]
theorem triml_p (l : List UInt8) : PCall Tryz.prog glob 34 [.v (.string (bs l)), .v (.string ⟨#[32, 9, 10, 13]⟩)] (.v (.string (bs (l.dropWhile (blanks4.contains ·))))) :=
  PCall.shelf ⟨_, Tryz.func34, by kernel_rfl, by kernel_rfl⟩ rfl (is2 (is_v _) (is_v _)) (fun _ _ => .v _) fun σ H w _ => Any.strings_TrimLeft_laid Tryz.lays161 (by kernel_rfl) (bs l) ⟨#[32, 9, 10, 13]⟩ w (by decide) (ascii_of_all (by decide))
def hexs : List UInt8 := [48, 49, 50, 51, 52, 53, 54, 55, 56, 57, 97, 98, 99, 100, 101, 102, 65, 66, 67, 68, 69, 70]
theorem trim_p (l : List UInt8) (hl : l.length ≤ 9223372036854775807) : PCall Tryz.prog glob 82 [.v (.string (bs l)), .v (.string ⟨#[48, 49, 50, 51, 52, 53, 54, 55, 56, 57, 97, 98, 99, 100, 101, 102, 65, 66, 67, 68, 69, 70]⟩)] (.v (.string (bs (Lib.trimS l hexs)))) :=
  PCall.shelf ⟨_, Tryz.func82, by kernel_rfl, by kernel_rfl⟩ rfl (is2 (is_v _) (is_v _)) (fun _ _ => .v _) fun σ H w _ => Any.strings_Trim_laid Tryz.lays160 (by kernel_rfl) (bs l) ⟨#[48, 49, 50, 51, 52, 53, 54, 55, 56, 57, 97, 98, 99, 100, 101, 102, 65, 66, 67, 68, 69, 70]⟩ w (by rw [bs_size]; exact hl) (by decide) (ascii_of_all (by decide))
theorem ixb_p (s : ByteArray) (c : UInt8) : PCall Tryz.prog glob 81 [.v (.string s), .v (.int .u8 (c.toNat : Int))] (.v (.int .i64 (Lib.indexByte s.data.toList c))) :=
  PCall.shelf ⟨_, Tryz.func81, by kernel_rfl, by kernel_rfl⟩ rfl (is2 (is_v _) (is_v _)) (fun _ _ => .v _) fun σ H w _ => (Tryz.strings_IndexByte s (c.toNat : Int) w).mono fun e w' ⟨h1, h2⟩ => ⟨by rw [h1]; simp, h2 ▸ Below.refl _ _⟩
/-- A sign that ends what is taken at once. -/
def pq (c : Nat) : Bool := ((c : Int) == 34 || (c : Int) == 92 || decide ((c : Int) < 32) || (c : Int) == 65533)
theorem pq_p (c : Nat) : PCall Tryz.prog glob 55 [.v (.int .i32 (c : Int))] (.v (.bool (pq c))) := by
  refine PCall.of ctx.nr nrs (NR.v _) ?_
  refine lcall55 (by simp) 0 (Nat.le_refl _) ?_
  unfold lc55
  refine I1 tt ⟨?_⟩
  unfold pq
  obtain ⟨a, ha⟩ : ∃ a, ((c : Int) == 34) = a := ⟨_, rfl⟩
  obtain ⟨b, hb⟩ : ∃ a, ((c : Int) == 92) = a := ⟨_, rfl⟩
  obtain ⟨d, hd⟩ : ∃ a, decide ((c : Int) < 32) = a := ⟨_, rfl⟩
  obtain ⟨e, he⟩ : ∃ a, ((c : Int) == 65533) = a := ⟨_, rfl⟩
  rw [ha, hb, hd, he]
  cases a <;> cases b <;> cases d <;> cases e
  all_goals
    refine G1 F4 (an ha (an hb (an hd (an he tt)))) tt tt tt ⟨?_⟩
    refine R1 tt ⟨?_⟩
    exact end0 (NR.v _) rfl
theorem idxf_p (l : List UInt8) : PCall Tryz.prog glob 54 [.v (.string (bs l)), .fn (.func 55) []] (.v (.int .i64 (Lib.idxFunc pq true (bs l)))) :=
  PCall.shelf ⟨_, Tryz.func54, by kernel_rfl, by kernel_rfl⟩ rfl (is2 (is_v _) (is_f _)) (fun _ _ => .v _) fun σ H w rel =>
    Tryz.strings_IndexFunc_grows 55 #[] (enters_of Tryz.func55 (by kernel_rfl) rfl) pq (bs l) w fun W x _ hb => by
      have h := PCall.at ctx.nr (pq_p x) (rel.below hb).1 #[encR x] rfl fun j hj => by
        obtain rfl : j = 0 := by have : j < 1 := hj; omega
        exact .v _
      exact h
theorem tabs_of {σ : Sig} {H : AHeap} {w : World} (rel : Rel glob σ H w) : Lib.Utf8Tabs 2 3 w := by
  have h1 : ∀ c, c < 256 → lay_unicode_utf8_first.getD c 0 = Lib.firstT c := by decide +kernel
  have h2 : ∀ i, i < 16 → lay_unicode_utf8_acceptRanges.getD (2 * i) 0 = Lib.accLo i ∧ lay_unicode_utf8_acceptRanges.getD (2 * i + 1) 0 = Lib.accHi i := by decide +kernel
  have l1 : lay_unicode_utf8_first.length = 256 := by decide +kernel
  have l2 : lay_unicode_utf8_acceptRanges.length = 32 := by decide +kernel
  refine ⟨fun c hc => ?_, fun i hi => ⟨?_, ?_⟩⟩
  · rw [← h1 c hc]
    exact glob_cells (G := glob) (g := 2) (k := .u8) (lay := lay_unicode_utf8_first) rfl rel c (by omega)
  · rw [← (h2 i hi).1]
    exact glob_cells (G := glob) (g := 3) (k := .u8) (lay := lay_unicode_utf8_acceptRanges) rfl rel (2 * i) (by omega)
  · rw [← (h2 i hi).2]
    exact glob_cells (G := glob) (g := 3) (k := .u8) (lay := lay_unicode_utf8_acceptRanges) rfl rel (2 * i + 1) (by omega)
theorem dec_p (l : List UInt8) : PCall Tryz.prog glob 56 [.v (.string (bs l))] (.tup [.v (.int .i32 (Lib.decodeGo (bs l)).1), .v (.int .i64 (Lib.decodeGo (bs l)).2)]) :=
  PCall.shelf ⟨_, Tryz.func56, by kernel_rfl, by kernel_rfl⟩ rfl (is1 (is_v _)) (tup2 _ _) fun σ H w rel => Tryz.utf8_DecodeRuneInString (bs l) w (tabs_of rel)
end Go.Abs.S
namespace Go.Abs.S
open Go.Proofs
set_option linter.unusedVariables false
set_option linter.unusedSimpArgs false
/-- A text that is left; what is wrong. -/
abbrev St := List UInt8 × Int
def giveP (e : Int) (s : St) : St := if s.2 = 0 then ([], e) else s
def blanksP (s : St) : St := (s.1.dropWhile (blanks4.contains ·), s.2)
def takeP (p : List UInt8) (s : St) : St := ((if p.isPrefixOf s.1 = true then s.1.drop p.length else s.1), s.2)
def esc8 : ByteArray := ⟨#[34, 92, 47, 98, 102, 110, 114, 116]⟩
def esc8to : ByteArray := ⟨#[34, 92, 47, 8, 12, 10, 13, 9]⟩
def hexV (c : UInt8) : Nat := if c.toNat ≤ 57 then c.toNat - 48 else if c.toNat ≤ 70 then c.toNat - 55 else c.toNat - 87
def hex4 : List UInt8 → Nat
  | a :: b :: c :: d :: _ => ((hexV a * 16 + hexV b) * 16 + hexV c) * 16 + hexV d
  | _ => 0
/-- What stands behind a \. -/
def escP : St → ByteArray × St
  | ([], f) => (bs [], giveP 2 ([], f))
  | (c :: r, f) =>
    if 0 ≤ Lib.indexByte esc8.data.toList c then (esc8to.extract (Lib.indexByte esc8.data.toList c).toNat ((Lib.indexByte esc8.data.toList c).toNat + 1), (r, f))
    else if c.toNat ≠ 117 ∨ r.length < 4 ∨ Lib.trimS (r.take 4) hexs ≠ [] then (bs [], giveP 2 (r, f))
    else if 55296 ≤ hex4 r ∧ hex4 r < 57344 then (bs [], giveP 2 (r.drop 4, f))
    else (Utf8.encode (hex4 r), (r.drop 4, f))
/-- A text, behind its ". -/
def textP : Nat → List UInt8 → St → List UInt8 × St
  | 0, _, s => ([], s)
  | n + 1, acc, s =>
    if s.2 ≠ 0 then ([], s)
    else if Lib.idxFunc pq true (bs s.1) < 0 then ([], giveP 2 s)
    else
      let i := (Lib.idxFunc pq true (bs s.1)).toNat
      let l := s.1.drop i
      let d := Lib.decodeGo (bs l)
      if d.1 = 65533 ∧ 1 < d.2 then textP n (acc ++ s.1.take i ++ l.take d.2) (l.drop d.2, s.2)
      else if [34].isPrefixOf l = true then (acc ++ s.1.take i, (l.drop 1, s.2))
      else if [92].isPrefixOf l = true then textP n (acc ++ s.1.take i ++ bl (escP (l.drop 1, s.2)).1) (escP (l.drop 1, s.2)).2
      else textP n (acc ++ s.1.take i) (giveP 2 (l, s.2))
def textR (s : St) : List UInt8 × St := textP (s.1.length + 2) [] s
def idxL : List ByteArray → ByteArray → Bool
  | [], _ => false
  | a :: l, x => if x = a then true else idxL l x
/-- A page's next name, and its colon. -/
def nameP (l : List ByteArray) (s : St) : ByteArray × St :=
  let s1 := blanksP s
  let s2 := if [34].isPrefixOf s1.1 = true then takeP [34] s1 else giveP 2 s1
  let t := textR s2
  let s4 := if t.2.2 = 0 ∧ idxL l (bs t.1) = true then giveP 10 t.2 else t.2
  let s5 := blanksP s4
  let s6 := if [58].isPrefixOf s5.1 = true then takeP [58] s5 else giveP 2 s5
  (bs t.1, s6)
/-- A list's, or a page's, up to its end. -/
def partsP (V : St → Val × St) (kind : Int) (shut : List UInt8) : Nat → List ByteArray → List Val → St → Val × St
  | 0, _, _, s => (default, s)
  | n + 1, ns, vs, s =>
    if s.2 ≠ 0 then (default, s)
    else
      let s1 := if 64 ≤ vs.length then giveP 11 s else s
      let nm := nameP ns s1
      let ns' := if kind = 6 then ns ++ [nm.1] else ns
      let s2 := if kind = 6 then nm.2 else s1
      let x := V s2
      let s4 := blanksP x.2
      if shut.isPrefixOf s4.1 = true then (.mk kind (bs []) ns' (vs ++ [x.1]), takeP shut s4)
      else partsP V kind shut n ns' (vs ++ [x.1]) (if [44].isPrefixOf s4.1 = true then takeP [44] s4 else giveP 2 s4)
def partsR (V : St → Val × St) (kind : Int) (shut : List UInt8) (s : St) : Val × St :=
  if shut.isPrefixOf (blanksP s).1 = true then (.mk kind (bs []) [] [], takeP shut (blanksP s)) else partsP V kind shut 67 [] [] (blanksP s)
def nullB : List UInt8 := [110, 117, 108, 108]
def falseB : List UInt8 := [102, 97, 108, 115, 101]
def trueB : List UInt8 := [116, 114, 117, 101]
/-- A value, at a depth; so many depths below are left. -/
def valueP : Nat → Int → St → Val × St
  | 0, _, s => (default, s)
  | n + 1, d, s =>
    let s1 := blanksP s
    let s2 := if 8 < d ∧ s1.1 ≠ [] then giveP 9 s1 else s1
    if nullB.isPrefixOf s2.1 = true then (.mk 0 (bs []) [] [], takeP nullB s2)
    else if falseB.isPrefixOf s2.1 = true then (.mk 1 (bs []) [] [], takeP falseB s2)
    else if trueB.isPrefixOf s2.1 = true then (.mk 2 (bs []) [] [], takeP trueB s2)
    else if [34].isPrefixOf s2.1 = true then (.mk 4 (bs (textR (takeP [34] s2)).1) [] [], (textR (takeP [34] s2)).2)
    else if [91].isPrefixOf s2.1 = true then partsR (valueP n (d + 1)) 5 [93] (takeP [91] s2)
    else if [123].isPrefixOf s2.1 = true then partsR (valueP n (d + 1)) 6 [125] (takeP [123] s2)
    else if nuL s2.1 = 0 ∨ 40 < nuL s2.1 then (default, giveP 2 s2)
    else (.mk 3 (bs (s2.1.take (nuL s2.1))) [] [], (s2.1.drop (nuL s2.1), s2.2))
/-- A text's value, or what is wrong. -/
def parseP (l : List UInt8) : Val × Int :=
  let r := valueP 10 1 (l, 0)
  let s := blanksP r.2
  let s := if s.1 ≠ [] then giveP 2 s else s
  if s.2 ≠ 0 then (default, s.2) else (r.1, 0)
end Go.Abs.S
namespace Go.Abs.S
attribute [local go_sem] lguard aopO aop aenv toAV tput aLoad aStore vcells aBin aNilI aUn aAlloc aBox aBuild aBSlice afill aConv isIntT aappZ aCap aArr aMM aMake aSlice bnd3 bnd aFldAddr aFld aIdxAddr aIdx aExt aLen aCopy aEq0 bAV aUb aapp aappQ agh acont List.getD_cons_zero List.getD_cons_succ List.set_cons_zero List.set_cons_succ List.getElem?_cons_zero List.getElem?_cons_succ List.length_cons List.length_nil List.map_cons List.map_nil ints_length if_true if_false Bool.false_eq_true true_and and_true eq_self ne_eq not_false_eq_true not_true_eq_false beq_self_eq_true Nat.zero_add Nat.add_zero Nat.mul_one Nat.zero_mul Int.toNat_natCast List.toList_toArray List.all_cons List.all_nil AV.one Value.oneCell' Bool.and_true Bool.true_and forall_const true_implies false_implies implies_true Option.map_some Option.map_none Option.isSome_some Option.isSome_none imp_self rdP_flat rdP_row splice_one ints_set ints_get List.append_nil List.cons_append List.nil_append List.getElem?_toArray List.drop_zero ints_drop ints_take List.take_of_length_le splice_all ints_one Option.some.injEq Option.getD_some List.length_replicate zArr List.map_replicate rep_ints splice_intsR List.length_set List.length_append List.flatten_replicate_singleton rep_slice rep_string rep_bool rep_iface List.replicate_zero if_pos if_neg List.mapM_cons List.mapM_nil Option.pure_def Option.bind_eq_bind Option.bind_some Bool.true_eq_false Bool.not_false Bool.not_true get_concat set_concat
open Go.Proofs
set_option linter.unusedVariables false
set_option linter.unusedSimpArgs false
set_option maxRecDepth 100000
set_option maxHeartbeats 4000000
/-- A reader. -/
abbrev RB (s : St) : Blk := ⟨[.v (.string (bs s.1)), .v (.int .i64 s.2)], 0, true, 52⟩
theorem RB.nr (s : St) : ∀ c ∈ (RB s).cells, NR c := by
  intro c hc
  simp only [List.mem_cons, List.not_mem_nil, or_false] at hc
  rcases hc with rfl | rfl <;> exact NR.v _
theorem blanks_m (s : St) : MCall Tryz.prog glob 17 [] (RB s) (.tup []) (RB (blanksP s)) := by
  obtain ⟨l, f⟩ := s
  refine MCall.of ctx.nr rfl rfl nrs NR.tup0 (RB.nr _) (RB.nr _) ?_
  refine lcall17 (by simp) 1 (Nat.le_refl _) ?_
  unfold lc17
  refine I1 tt ⟨?_⟩
  have tp := triml_p l
  refine G1 F4 tt (an tp.go tt) tt tt ⟨?_⟩
  refine R1 tt ⟨?_⟩
  exact end1 NR.tup0 rfl (RB.nr _) rfl
theorem give_m (e : Int) (s : St) : MCall Tryz.prog glob 18 [.v (.int .i64 e)] (RB s) (.tup []) (RB (giveP e s)) := by
  obtain ⟨l, f⟩ := s
  refine MCall.of ctx.nr rfl rfl nrs NR.tup0 (RB.nr _) (RB.nr _) ?_
  refine lcall18 (by simp) 1 (Nat.le_refl _) ?_
  unfold lc18
  refine I1 tt ⟨?_⟩
  unfold giveP
  by_cases h : f = 0
  · subst h
    rw [if_pos rfl]
    refine G1 F4 tt tt tt tt ⟨?_⟩
    refine R1 tt ⟨?_⟩
    exact end1 NR.tup0 rfl (RB.nr _) rfl
  · rw [if_neg h]
    have q : ((f : Int) == 0) = false := by rw [beq_eq_false_iff_ne, ne_eq]; omega
    refine G1 F4 (an q tt) tt tt tt ⟨?_⟩
    refine R1 tt ⟨?_⟩
    exact end1 NR.tup0 rfl (RB.nr _) rfl
theorem take_m (p : List UInt8) (s : St) : MCall Tryz.prog glob 30 [.v (.string (bs p))] (RB s) (.v (.bool (p.isPrefixOf s.1))) (RB (takeP p s)) := by
  obtain ⟨l, f⟩ := s
  refine MCall.of ctx.nr rfl rfl nrs (NR.v _) (RB.nr _) (RB.nr _) ?_
  refine lcall30 (by simp) 1 (Nat.le_refl _) ?_
  unfold lc30
  refine I1 tt ⟨?_⟩
  have cp := cut_p l p
  refine G1 F4 tt (an cp.go tt) tt tt ⟨?_⟩
  refine R1 tt ⟨?_⟩
  exact end1 (NR.v _) rfl (RB.nr _) rfl
end Go.Abs.S
