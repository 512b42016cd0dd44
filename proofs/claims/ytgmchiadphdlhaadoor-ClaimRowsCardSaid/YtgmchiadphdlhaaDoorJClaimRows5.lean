/- The statement ClaimRowsSaid and its tied card: for every input the law answers true and the input reads as it did, the listed variables holding what the program lays in them. -/
import Derived.Test.YtgmchiadphdlhaaDoorJClaimRows4
import Derived.Test.YtgmchiadphdlhaaDoorJClaimRows3
import Derived.Test.YtgmchiadphdlhaaDoorJClaimRows2
import Derived.Test.YtgmchiadphdlhaaDoorRows
import Derived.Test.YtgmchiadphdlhaaDoorCards
import Derived.Test.YtgmchiadphdlhaaDoorTie
import Derived.Test.YtgmchiadphdlhaaDoorJClaimRows1
import Derived.Lay
import Derived.MakeChecks
import Derived.WalkKit
import Derived.ProofKit
import Derived.OpenShut
import Derived.ShutString
import Derived.ChangeOld
import Derived.Below
import Derived.SizedLaws
import Derived.LaidMore
import Derived.Stop.Joined
import Derived.SevenTiedAt
namespace Go.Abs.S
attribute [local go_sem] lguard aopO aop aenv toAV tput aLoad aStore vcells aBin aNilI aUn aAlloc aBox aBuild aBSlice afill aConv isIntT aappZ aCap aArr aMM aMake aSlice bnd3 bnd aFldAddr aFld aIdxAddr aIdx aExt aLen aCopy aEq0 bAV aUb aapp aappQ agh acont List.getD_cons_zero List.getD_cons_succ List.set_cons_zero List.set_cons_succ List.getElem?_cons_zero List.getElem?_cons_succ List.length_cons List.length_nil List.map_cons List.map_nil ints_length if_true if_false Bool.false_eq_true true_and and_true eq_self ne_eq not_false_eq_true not_true_eq_false beq_self_eq_true Nat.zero_add Nat.add_zero Nat.mul_one Nat.zero_mul Int.toNat_natCast List.toList_toArray List.all_cons List.all_nil AV.one Value.oneCell' Bool.and_true Bool.true_and forall_const true_implies false_implies implies_true Option.map_some Option.map_none Option.isSome_some Option.isSome_none imp_self rdP_flat rdP_row splice_one ints_set ints_get List.append_nil List.cons_append List.nil_append List.getElem?_toArray List.drop_zero ints_drop ints_take List.take_of_length_le splice_all ints_one Option.some.injEq Option.getD_some List.length_replicate zArr List.map_replicate rep_ints splice_intsR List.length_set List.length_append List.flatten_replicate_singleton rep_slice rep_string rep_bool rep_iface List.replicate_zero if_pos if_neg List.mapM_cons List.mapM_nil Option.pure_def Option.bind_eq_bind Option.bind_some Bool.true_eq_false Bool.not_false Bool.not_true get_concat set_concat
open Go.Proofs
open Go.Abs.H
set_option linter.unusedVariables false
set_option linter.unusedSimpArgs false
set_option maxRecDepth 100000
set_option maxHeartbeats 4000000
theorem mom_in {s : ByteArray} (h : D19 s) : (0 ≤ n4 s 0 ∧ n4 s 0 ≤ 9999) ∧ (0 ≤ n2 s 5 ∧ n2 s 5 ≤ 99) ∧ (0 ≤ n2 s 8 ∧ n2 s 8 ≤ 99) ∧ (0 ≤ n2 s 11 ∧ n2 s 11 ≤ 99) ∧ (0 ≤ n2 s 14 ∧ n2 s 14 ≤ 99) ∧ (0 ≤ n2 s 17 ∧ n2 s 17 ≤ 99) := by
  obtain ⟨h0, _, h5, _, h8, _, h11, _, h14, _, h17⟩ := h
  exact ⟨n4_in h0, n2_in h5, n2_in h8, n2_in h11, n2_in h14, n2_in h17⟩
theorem num2_p (s : ByteArray) (a b : Nat) (hb : b = a + 2) (hs : b ≤ s.size) (h : dg s a ∧ dg s (a + 1)) : PCall Tryd.prog glob 60 [.v (.string (s.extract a b))] (iv (n2 s a)) := by
  subst hb
  have hz : (s.extract a (a + 2)).size = 2 := by rw [ext_size]; omega
  have := number_p (s.extract a (a + 2)) (by omega) (by omega) ((allD2 s a hs).2 h)
  rwa [num2 s a hs] at this
theorem num4_p (s : ByteArray) (hs : 4 ≤ s.size) (h : dg s 0 ∧ dg s 1 ∧ dg s 2 ∧ dg s 3) : PCall Tryd.prog glob 60 [.v (.string (s.extract 0 4))] (iv (n4 s 0)) := by
  have hz : (s.extract 0 4).size = 4 := by rw [ext_size]; omega
  have := number_p (s.extract 0 4) (by omega) (by omega) ((allD4 s hs).2 h)
  rwa [num4 s hs] at this
theorem Read_z (s : ByteArray) (hF : Formed s) (hs : s.size = 20) : PCall Tryd.prog glob 45 [.v (.string s)] (.tup [iv (readP s).1, iv (readP s).2]) := by
  have hF0 := hF
  refine PCall.of ctx.nr nrs (NR.t2 _ _) ?_
  refine lcall45 (by simp) 0 (Nat.le_refl _) ?_
  unfold lc45
  refine I1 tt ⟨?_⟩
  have hif : (if (s.size : Int) < 19 then (s.size : Int) else 19) = ((19 : Nat) : Int) := by
    split <;> omega
  have hif2 : (if (19 : Int) < (s.size : Int) then (19 : Int) else (s.size : Int)) = ((19 : Nat) : Int) := by
    split <;> omega
  have hfo := (formed_iff s 19 (by omega)).1 hF
  have hmi := mom_in hF.1
  obtain ⟨hd19, hcase⟩ := hF
  obtain ⟨h0, _, h5, _, h8, _, h11, _, h14, _, h17⟩ := hd19
  have hz0 : (s.extract 0 19).size ≤ 1000000 := by rw [ext_size]; omega
  have f0 := fits_p (s.extract 0 19) F19 hz0 (by decide)
  rw [decide_eq_true hfo.1] at f0
  have np0 := num4_p s (by omega) h0
  have np5 := num2_p s 5 7 rfl (by omega) h5
  have np8 := num2_p s 8 10 rfl (by omega) h8
  have np11 := num2_p s 11 13 rfl (by omega) h11
  have np14 := num2_p s 14 16 rfl (by omega) h14
  have np17 := num2_p s 17 19 rfl (by omega) h17
  have gp := good_p (momS s) (by show -9223372036854775808 ≤ n2 s 5 ∧ n2 s 5 ≤ 9223372036854775807; omega)
  rw [goodP_ok (momS s) (by show 0 ≤ n2 s 11; omega) (by show 0 ≤ n2 s 14; omega) (by show 0 ≤ n2 s 17; omega)] at gp
  have emv : mv (momS s) = .agg (ints .i64 [n4 s 0, n2 s 5, n2 s 8, n2 s 11, n2 s 14, n2 s 17]) := rfl
  rw [emv] at gp
  have bm : ∀ a b c d e f : Int, (((List.take 0 (List.replicate 6 0) ++ (((List.replicate 3 0).set 0 a).set 1 b).set 2 c ++ List.drop 3 (List.replicate 6 0)).set 3 d).set 4 e).set 5 f = [a, b, c, d, e, f] := fun _ _ _ _ _ _ => rfl
  have hb0 := bt_ext s 19 s.size 0 (by omega)
  rw [Nat.add_zero] at hb0
  have hez : (s.extract 19 s.size).size = s.size - 19 := by rw [ext_size]; omega
  have hb19 : bt s 19 = 90 := by rcases hcase with h | h <;> omega
  have hE1 : s.extract 19 s.size = ⟨#[90]⟩ := by
    rcases hfo.2 with h | h | h
    · exact h
    · have := h.1
      rw [hez] at this
      have e : FP.size = 6 := rfl
      omega
    · have := h.1
      rw [hez] at this
      have e : FM.size = 6 := rfl
      omega
  have q : ((⟨#[90]⟩ : ByteArray).toList == (⟨#[90]⟩ : ByteArray).toList) = true := by simp
  have q0 : (((({ data := #[90] } : ByteArray).data.toList.getD 0 0).toNat : Int) == 43) = false := by decide
  have hov : ¬ (s.size = 25 ∧ (23 < n2 s 20 ∨ 59 < n2 s 23)) := by omega
  have hsh : shf s = 0 := by unfold shf; rw [if_pos hs]
  by_cases hok : ¬ (momS s).ok
  · rw [decide_eq_false hok] at gp
    have er : readP s = (0, 12) := by unfold readP; rw [if_neg (not_not_intro hF0), if_neg hov, if_pos hok]
    rw [er]
    refine G1 F4 (an bm (an hif (an hif2 (an hE1 (an q (an q0 tt)))))) (an f0.go (an np0.go (an np5.go (an np8.go (an np11.go (an np14.go (an np17.go (an gp.go tt)))))))) tt tt ⟨?_⟩
    refine R1 tt ⟨?_⟩
    exact end0 (NR.t2 _ _) rfl
  replace hok := Decidable.not_not.1 hok
  rw [decide_eq_true hok] at gp
  have sp := seconds_p (momS s) hok
  rw [emv] at sp
  have hsi := secs_in hok
  unfold tFirst tLast at hsi
  have w3 := i64z (secs (momS s) + 0) (by omega)
  have tp := time_p (secs (momS s) + 0)
  obtain ⟨N, hN⟩ : ∃ N, secs (momS s) = N := ⟨_, rfl⟩
  by_cases ht : ¬ (tFirst ≤ secs (momS s) + 0 ∧ secs (momS s) + 0 ≤ tLast)
  · rw [decide_eq_false ht] at tp
    have er : readP s = (0, 12) := by unfold readP; rw [if_neg (not_not_intro hF0), if_neg hov, if_neg (not_not_intro hok), hsh, if_pos ht]
    rw [er]
    rw [hN] at sp tp w3
    repeat (first
      | (with_reducible refine lops_step fun K hK => ?_; simp (disch := first | exact dch | fail) only [go_sem, Nat.reduceAdd, Nat.reduceSub, reduceIte, Nat.reduceEqDiff, Int.reduceToNat, Int.reduceBEq, Int.reduceBNe, w3, bm, hif, hif2, hE1, q, q0]; (try (first | (refine And.intro (fun _ => ?_) (fun h => absurd h (by decide))) | (refine And.intro (fun h => absurd h (by decide)) (fun _ => ?_)))); (repeat (with_reducible refine And.intro acl ?_)); (first | (refine hK _ _ ?_) | (refine ⟨_, rfl, hK _ _ ?_⟩) | (refine Or.inl (hK _ _ ?_)) | (refine ⟨_, _, Or.inl (f0.go _), (by first | exact ⟨[], (List.append_nil _).symm⟩ | exact ⟨_, rfl⟩), hK _ _ ?_⟩) | (refine ⟨_, _, Or.inl (f0.go _), hK _ _ ?_⟩) | (refine ⟨_, _, Or.inl (f0.go _).weakQ, hK _ _ ?_⟩) | (refine ⟨_, _, Or.inl (np0.go _), (by first | exact ⟨[], (List.append_nil _).symm⟩ | exact ⟨_, rfl⟩), hK _ _ ?_⟩) | (refine ⟨_, _, Or.inl (np0.go _), hK _ _ ?_⟩) | (refine ⟨_, _, Or.inl (np0.go _).weakQ, hK _ _ ?_⟩) | (refine ⟨_, _, Or.inl (np5.go _), (by first | exact ⟨[], (List.append_nil _).symm⟩ | exact ⟨_, rfl⟩), hK _ _ ?_⟩) | (refine ⟨_, _, Or.inl (np5.go _), hK _ _ ?_⟩) | (refine ⟨_, _, Or.inl (np5.go _).weakQ, hK _ _ ?_⟩) | (refine ⟨_, _, Or.inl (np8.go _), (by first | exact ⟨[], (List.append_nil _).symm⟩ | exact ⟨_, rfl⟩), hK _ _ ?_⟩) | (refine ⟨_, _, Or.inl (np8.go _), hK _ _ ?_⟩) | (refine ⟨_, _, Or.inl (np8.go _).weakQ, hK _ _ ?_⟩) | (refine ⟨_, _, Or.inl (np11.go _), (by first | exact ⟨[], (List.append_nil _).symm⟩ | exact ⟨_, rfl⟩), hK _ _ ?_⟩) | (refine ⟨_, _, Or.inl (np11.go _), hK _ _ ?_⟩) | (refine ⟨_, _, Or.inl (np11.go _).weakQ, hK _ _ ?_⟩) | (refine ⟨_, _, Or.inl (np14.go _), (by first | exact ⟨[], (List.append_nil _).symm⟩ | exact ⟨_, rfl⟩), hK _ _ ?_⟩) | (refine ⟨_, _, Or.inl (np14.go _), hK _ _ ?_⟩) | (refine ⟨_, _, Or.inl (np14.go _).weakQ, hK _ _ ?_⟩) | (refine ⟨_, _, Or.inl (np17.go _), (by first | exact ⟨[], (List.append_nil _).symm⟩ | exact ⟨_, rfl⟩), hK _ _ ?_⟩) | (refine ⟨_, _, Or.inl (np17.go _), hK _ _ ?_⟩) | (refine ⟨_, _, Or.inl (np17.go _).weakQ, hK _ _ ?_⟩) | (refine ⟨_, _, Or.inl (gp.go _), (by first | exact ⟨[], (List.append_nil _).symm⟩ | exact ⟨_, rfl⟩), hK _ _ ?_⟩) | (refine ⟨_, _, Or.inl (gp.go _), hK _ _ ?_⟩) | (refine ⟨_, _, Or.inl (gp.go _).weakQ, hK _ _ ?_⟩) | (refine ⟨_, _, Or.inl (sp.go _), (by first | exact ⟨[], (List.append_nil _).symm⟩ | exact ⟨_, rfl⟩), hK _ _ ?_⟩) | (refine ⟨_, _, Or.inl (sp.go _), hK _ _ ?_⟩) | (refine ⟨_, _, Or.inl (sp.go _).weakQ, hK _ _ ?_⟩) | (refine ⟨_, _, Or.inl (tp.go _), (by first | exact ⟨[], (List.append_nil _).symm⟩ | exact ⟨_, rfl⟩), hK _ _ ?_⟩) | (refine ⟨_, _, Or.inl (tp.go _), hK _ _ ?_⟩) | (refine ⟨_, _, Or.inl (tp.go _).weakQ, hK _ _ ?_⟩)); clear hK K)
      | (with_reducible refine lops_nil ?_)
      | (with_reducible first | refine lavc_reg ?_ | refine lavc_seq ?_ | refine lavc_block ?_ | refine lavc_skip ?_ | refine lavc_exit ?_ | refine lavc_ret ?_ | refine lavcR_round ?_)
      | (refine lavc_cond rfl (fun _ => ?_) (fun hc => absurd hc (by decide)))
      | (refine lavc_cond rfl (fun hc => absurd hc (by decide)) (fun _ => ?_))
      | (simp only [↓reduceIte, Nat.reduceEqDiff, reduceCtorEq]))
    refine R1 tt ⟨?_⟩
    exact end0 (NR.t2 _ _) rfl
  replace ht := Decidable.not_not.1 ht
  rw [decide_eq_true ht] at tp
  have er : readP s = (secs (momS s) + 0, 0) := by unfold readP; rw [if_neg (not_not_intro hF0), if_neg hov, if_neg (not_not_intro hok), hsh, if_neg (not_not_intro ht)]
  rw [er]
  rw [hN] at sp tp w3 ⊢
  repeat (first
    | (with_reducible refine lops_step fun K hK => ?_; simp (disch := first | exact dch | fail) only [go_sem, Nat.reduceAdd, Nat.reduceSub, reduceIte, Nat.reduceEqDiff, Int.reduceToNat, Int.reduceBEq, Int.reduceBNe, w3, bm, hif, hif2, hE1, q, q0]; (try (first | (refine And.intro (fun _ => ?_) (fun h => absurd h (by decide))) | (refine And.intro (fun h => absurd h (by decide)) (fun _ => ?_)))); (repeat (with_reducible refine And.intro acl ?_)); (first | (refine hK _ _ ?_) | (refine ⟨_, rfl, hK _ _ ?_⟩) | (refine Or.inl (hK _ _ ?_)) | (refine ⟨_, _, Or.inl (f0.go _), (by first | exact ⟨[], (List.append_nil _).symm⟩ | exact ⟨_, rfl⟩), hK _ _ ?_⟩) | (refine ⟨_, _, Or.inl (f0.go _), hK _ _ ?_⟩) | (refine ⟨_, _, Or.inl (f0.go _).weakQ, hK _ _ ?_⟩) | (refine ⟨_, _, Or.inl (np0.go _), (by first | exact ⟨[], (List.append_nil _).symm⟩ | exact ⟨_, rfl⟩), hK _ _ ?_⟩) | (refine ⟨_, _, Or.inl (np0.go _), hK _ _ ?_⟩) | (refine ⟨_, _, Or.inl (np0.go _).weakQ, hK _ _ ?_⟩) | (refine ⟨_, _, Or.inl (np5.go _), (by first | exact ⟨[], (List.append_nil _).symm⟩ | exact ⟨_, rfl⟩), hK _ _ ?_⟩) | (refine ⟨_, _, Or.inl (np5.go _), hK _ _ ?_⟩) | (refine ⟨_, _, Or.inl (np5.go _).weakQ, hK _ _ ?_⟩) | (refine ⟨_, _, Or.inl (np8.go _), (by first | exact ⟨[], (List.append_nil _).symm⟩ | exact ⟨_, rfl⟩), hK _ _ ?_⟩) | (refine ⟨_, _, Or.inl (np8.go _), hK _ _ ?_⟩) | (refine ⟨_, _, Or.inl (np8.go _).weakQ, hK _ _ ?_⟩) | (refine ⟨_, _, Or.inl (np11.go _), (by first | exact ⟨[], (List.append_nil _).symm⟩ | exact ⟨_, rfl⟩), hK _ _ ?_⟩) | (refine ⟨_, _, Or.inl (np11.go _), hK _ _ ?_⟩) | (refine ⟨_, _, Or.inl (np11.go _).weakQ, hK _ _ ?_⟩) | (refine ⟨_, _, Or.inl (np14.go _), (by first | exact ⟨[], (List.append_nil _).symm⟩ | exact ⟨_, rfl⟩), hK _ _ ?_⟩) | (refine ⟨_, _, Or.inl (np14.go _), hK _ _ ?_⟩) | (refine ⟨_, _, Or.inl (np14.go _).weakQ, hK _ _ ?_⟩) | (refine ⟨_, _, Or.inl (np17.go _), (by first | exact ⟨[], (List.append_nil _).symm⟩ | exact ⟨_, rfl⟩), hK _ _ ?_⟩) | (refine ⟨_, _, Or.inl (np17.go _), hK _ _ ?_⟩) | (refine ⟨_, _, Or.inl (np17.go _).weakQ, hK _ _ ?_⟩) | (refine ⟨_, _, Or.inl (gp.go _), (by first | exact ⟨[], (List.append_nil _).symm⟩ | exact ⟨_, rfl⟩), hK _ _ ?_⟩) | (refine ⟨_, _, Or.inl (gp.go _), hK _ _ ?_⟩) | (refine ⟨_, _, Or.inl (gp.go _).weakQ, hK _ _ ?_⟩) | (refine ⟨_, _, Or.inl (sp.go _), (by first | exact ⟨[], (List.append_nil _).symm⟩ | exact ⟨_, rfl⟩), hK _ _ ?_⟩) | (refine ⟨_, _, Or.inl (sp.go _), hK _ _ ?_⟩) | (refine ⟨_, _, Or.inl (sp.go _).weakQ, hK _ _ ?_⟩) | (refine ⟨_, _, Or.inl (tp.go _), (by first | exact ⟨[], (List.append_nil _).symm⟩ | exact ⟨_, rfl⟩), hK _ _ ?_⟩) | (refine ⟨_, _, Or.inl (tp.go _), hK _ _ ?_⟩) | (refine ⟨_, _, Or.inl (tp.go _).weakQ, hK _ _ ?_⟩)); clear hK K)
    | (with_reducible refine lops_nil ?_)
    | (with_reducible first | refine lavc_reg ?_ | refine lavc_seq ?_ | refine lavc_block ?_ | refine lavc_skip ?_ | refine lavc_exit ?_ | refine lavc_ret ?_ | refine lavcR_round ?_)
    | (refine lavc_cond rfl (fun _ => ?_) (fun hc => absurd hc (by decide)))
    | (refine lavc_cond rfl (fun hc => absurd hc (by decide)) (fun _ => ?_))
    | (simp only [↓reduceIte, Nat.reduceEqDiff, reduceCtorEq]))
  refine R1 tt ⟨?_⟩
  exact end0 (NR.t2 _ _) rfl
theorem Read_25 (s : ByteArray) (hF : Formed s) (hs : s.size = 25) : PCall Tryd.prog glob 45 [.v (.string s)] (.tup [iv (readP s).1, iv (readP s).2]) := by
  have hF0 := hF
  refine PCall.of ctx.nr nrs (NR.t2 _ _) ?_
  refine lcall45 (by simp) 0 (Nat.le_refl _) ?_
  unfold lc45
  refine I1 tt ⟨?_⟩
  have hif : (if (s.size : Int) < 19 then (s.size : Int) else 19) = ((19 : Nat) : Int) := by
    split <;> omega
  have hif2 : (if (19 : Int) < (s.size : Int) then (19 : Int) else (s.size : Int)) = ((19 : Nat) : Int) := by
    split <;> omega
  have hfo := (formed_iff s 19 (by omega)).1 hF
  have hmi := mom_in hF.1
  obtain ⟨hd19, hcase⟩ := hF
  obtain ⟨h0, _, h5, _, h8, _, h11, _, h14, _, h17⟩ := hd19
  have hz0 : (s.extract 0 19).size ≤ 1000000 := by rw [ext_size]; omega
  have f0 := fits_p (s.extract 0 19) F19 hz0 (by decide)
  rw [decide_eq_true hfo.1] at f0
  have np0 := num4_p s (by omega) h0
  have np5 := num2_p s 5 7 rfl (by omega) h5
  have np8 := num2_p s 8 10 rfl (by omega) h8
  have np11 := num2_p s 11 13 rfl (by omega) h11
  have np14 := num2_p s 14 16 rfl (by omega) h14
  have np17 := num2_p s 17 19 rfl (by omega) h17
  have gp := good_p (momS s) (by show -9223372036854775808 ≤ n2 s 5 ∧ n2 s 5 ≤ 9223372036854775807; omega)
  rw [goodP_ok (momS s) (by show 0 ≤ n2 s 11; omega) (by show 0 ≤ n2 s 14; omega) (by show 0 ≤ n2 s 17; omega)] at gp
  have emv : mv (momS s) = .agg (ints .i64 [n4 s 0, n2 s 5, n2 s 8, n2 s 11, n2 s 14, n2 s 17]) := rfl
  rw [emv] at gp
  have bm : ∀ a b c d e f : Int, (((List.take 0 (List.replicate 6 0) ++ (((List.replicate 3 0).set 0 a).set 1 b).set 2 c ++ List.drop 3 (List.replicate 6 0)).set 3 d).set 4 e).set 5 f = [a, b, c, d, e, f] := fun _ _ _ _ _ _ => rfl
  have hb0 := bt_ext s 19 s.size 0 (by omega)
  rw [Nat.add_zero] at hb0
  have hez : (s.extract 19 s.size).size = s.size - 19 := by rw [ext_size]; omega
  have hE25 : E25 s := by rcases hcase with h | h; omega; exact h.2
  obtain ⟨hsg, h20, h22, h23⟩ := hE25
  have hz1 : (s.extract 19 s.size).size ≤ 1000000 := by omega
  have f1 := fits_p (s.extract 19 s.size) FP hz1 (by decide)
  have f2 := fits_p (s.extract 19 s.size) FM hz1 (by decide)
  have b1 : ∀ i, 19 + i < s.size → bt (s.extract 19 s.size) i = bt s (19 + i) := fun i hi => bt_ext s 19 s.size i hi
  have hE1 : ¬ (s.extract 19 s.size = ⟨#[90]⟩) := fun h => by
    have h1 : (s.extract 19 s.size).size = 1 := by rw [h]; rfl
    omega
  have n20 := n2_in h20
  have n23 := n2_in h23
  obtain ⟨E, hE⟩ : ∃ E, s.extract 19 s.size = E := ⟨_, rfl⟩
  rw [hE] at f1 f2 hfo b1 hE1 hez hb0
  have e20 : n2 E 1 = n2 s 20 := by unfold n2; rw [b1 1 (by omega), b1 2 (by omega)]
  have e23 : n2 E 4 = n2 s 23 := by unfold n2; rw [b1 4 (by omega), b1 5 (by omega)]
  have hes : E.size = 6 := by omega
  have dE1 : dg E 1 ∧ dg E (1 + 1) := by unfold dg; rw [b1 1 (by omega), b1 (1 + 1) (by omega)]; exact h20
  have dE4 : dg E 4 ∧ dg E (4 + 1) := by unfold dg; rw [b1 4 (by omega), b1 (4 + 1) (by omega)]; exact h23
  have np1 := num2_p E 1 3 rfl (by omega) dE1
  have np4 := num2_p E 4 6 rfl (by omega) dE4
  rw [e20] at np1
  rw [e23] at np4
  have q : (E.toList == (⟨#[90]⟩ : ByteArray).toList) = false := by rw [str_beq, decide_eq_false hE1]
  have hbE : ((E.data.toList.getD 0 0).toNat : Int) = bt s 19 := hb0
  obtain ⟨A, hA⟩ : ∃ A, n2 s 20 = A := ⟨_, rfl⟩
  obtain ⟨M, hM⟩ : ∃ M, n2 s 23 = M := ⟨_, rfl⟩
  have w1 := i64z (A * 3600) (by omega)
  have w2 := i64z (M * 60) (by omega)
  have w4 := i64z (A * 3600 + M * 60) (by omega)
  rw [hA] at np1
  rw [hM] at np4
  rcases hsg with hsg | hsg
  · have g1 : Fits E FP := (fitsP E).2 ⟨hes, by unfold DSh; rw [b1 0 (by omega), b1 3 (by omega)]; exact ⟨hsg, dE1, h22, dE4⟩⟩
    rw [decide_eq_true g1] at f1
    have q0 : ((bt s 19 : Int) == 43) = true := by rw [hsg]; rfl
    by_cases ho1 : 23 < A
    · have d1 : decide (A > 23) = true := by rw [decide_eq_true_eq]; omega
      have er : readP s = (0, 12) := by unfold readP; rw [if_neg (not_not_intro hF0), if_pos ⟨hs, by rw [hA]; exact .inl ho1⟩]
      rw [er]
      repeat (first
        | (with_reducible refine lops_step fun K hK => ?_; simp (disch := first | exact dch | fail) only [go_sem, Nat.reduceAdd, Nat.reduceSub, reduceIte, Nat.reduceEqDiff, Int.reduceToNat, Int.reduceBEq, Int.reduceBNe, d1, bm, hif, hif2, hE, q, q0, hbE, hes, w1, w2, w4]; (try (first | (refine And.intro (fun _ => ?_) (fun h => absurd h (by decide))) | (refine And.intro (fun h => absurd h (by decide)) (fun _ => ?_)))); (repeat (with_reducible refine And.intro acl ?_)); (first | (refine hK _ _ ?_) | (refine ⟨_, rfl, hK _ _ ?_⟩) | (refine Or.inl (hK _ _ ?_)) | (refine ⟨_, _, Or.inl (f0.go _), (by first | exact ⟨[], (List.append_nil _).symm⟩ | exact ⟨_, rfl⟩), hK _ _ ?_⟩) | (refine ⟨_, _, Or.inl (f0.go _), hK _ _ ?_⟩) | (refine ⟨_, _, Or.inl (f0.go _).weakQ, hK _ _ ?_⟩) | (refine ⟨_, _, Or.inl (np0.go _), (by first | exact ⟨[], (List.append_nil _).symm⟩ | exact ⟨_, rfl⟩), hK _ _ ?_⟩) | (refine ⟨_, _, Or.inl (np0.go _), hK _ _ ?_⟩) | (refine ⟨_, _, Or.inl (np0.go _).weakQ, hK _ _ ?_⟩) | (refine ⟨_, _, Or.inl (np5.go _), (by first | exact ⟨[], (List.append_nil _).symm⟩ | exact ⟨_, rfl⟩), hK _ _ ?_⟩) | (refine ⟨_, _, Or.inl (np5.go _), hK _ _ ?_⟩) | (refine ⟨_, _, Or.inl (np5.go _).weakQ, hK _ _ ?_⟩) | (refine ⟨_, _, Or.inl (np8.go _), (by first | exact ⟨[], (List.append_nil _).symm⟩ | exact ⟨_, rfl⟩), hK _ _ ?_⟩) | (refine ⟨_, _, Or.inl (np8.go _), hK _ _ ?_⟩) | (refine ⟨_, _, Or.inl (np8.go _).weakQ, hK _ _ ?_⟩) | (refine ⟨_, _, Or.inl (np11.go _), (by first | exact ⟨[], (List.append_nil _).symm⟩ | exact ⟨_, rfl⟩), hK _ _ ?_⟩) | (refine ⟨_, _, Or.inl (np11.go _), hK _ _ ?_⟩) | (refine ⟨_, _, Or.inl (np11.go _).weakQ, hK _ _ ?_⟩) | (refine ⟨_, _, Or.inl (np14.go _), (by first | exact ⟨[], (List.append_nil _).symm⟩ | exact ⟨_, rfl⟩), hK _ _ ?_⟩) | (refine ⟨_, _, Or.inl (np14.go _), hK _ _ ?_⟩) | (refine ⟨_, _, Or.inl (np14.go _).weakQ, hK _ _ ?_⟩) | (refine ⟨_, _, Or.inl (np17.go _), (by first | exact ⟨[], (List.append_nil _).symm⟩ | exact ⟨_, rfl⟩), hK _ _ ?_⟩) | (refine ⟨_, _, Or.inl (np17.go _), hK _ _ ?_⟩) | (refine ⟨_, _, Or.inl (np17.go _).weakQ, hK _ _ ?_⟩) | (refine ⟨_, _, Or.inl (gp.go _), (by first | exact ⟨[], (List.append_nil _).symm⟩ | exact ⟨_, rfl⟩), hK _ _ ?_⟩) | (refine ⟨_, _, Or.inl (gp.go _), hK _ _ ?_⟩) | (refine ⟨_, _, Or.inl (gp.go _).weakQ, hK _ _ ?_⟩) | (refine ⟨_, _, Or.inl (f1.go _), (by first | exact ⟨[], (List.append_nil _).symm⟩ | exact ⟨_, rfl⟩), hK _ _ ?_⟩) | (refine ⟨_, _, Or.inl (f1.go _), hK _ _ ?_⟩) | (refine ⟨_, _, Or.inl (f1.go _).weakQ, hK _ _ ?_⟩) | (refine ⟨_, _, Or.inl (f2.go _), (by first | exact ⟨[], (List.append_nil _).symm⟩ | exact ⟨_, rfl⟩), hK _ _ ?_⟩) | (refine ⟨_, _, Or.inl (f2.go _), hK _ _ ?_⟩) | (refine ⟨_, _, Or.inl (f2.go _).weakQ, hK _ _ ?_⟩) | (refine ⟨_, _, Or.inl (np1.go _), (by first | exact ⟨[], (List.append_nil _).symm⟩ | exact ⟨_, rfl⟩), hK _ _ ?_⟩) | (refine ⟨_, _, Or.inl (np1.go _), hK _ _ ?_⟩) | (refine ⟨_, _, Or.inl (np1.go _).weakQ, hK _ _ ?_⟩) | (refine ⟨_, _, Or.inl (np4.go _), (by first | exact ⟨[], (List.append_nil _).symm⟩ | exact ⟨_, rfl⟩), hK _ _ ?_⟩) | (refine ⟨_, _, Or.inl (np4.go _), hK _ _ ?_⟩) | (refine ⟨_, _, Or.inl (np4.go _).weakQ, hK _ _ ?_⟩)); clear hK K)
        | (with_reducible refine lops_nil ?_)
        | (with_reducible first | refine lavc_reg ?_ | refine lavc_seq ?_ | refine lavc_block ?_ | refine lavc_skip ?_ | refine lavc_exit ?_ | refine lavc_ret ?_ | refine lavcR_round ?_)
        | (refine lavc_cond rfl (fun _ => ?_) (fun hc => absurd hc (by decide)))
        | (refine lavc_cond rfl (fun hc => absurd hc (by decide)) (fun _ => ?_))
        | (simp only [↓reduceIte, Nat.reduceEqDiff, reduceCtorEq]))
      refine R1 tt ⟨?_⟩
      exact end0 (NR.t2 _ _) rfl
    have d1 : decide (A > 23) = false := by rw [decide_eq_false_iff_not]; omega
    by_cases ho2 : 59 < M
    · have d2 : decide (M > 59) = true := by rw [decide_eq_true_eq]; omega
      have er : readP s = (0, 12) := by unfold readP; rw [if_neg (not_not_intro hF0), if_pos ⟨hs, by rw [hM]; exact .inr ho2⟩]
      rw [er]
      repeat (first
        | (with_reducible refine lops_step fun K hK => ?_; simp (disch := first | exact dch | fail) only [go_sem, Nat.reduceAdd, Nat.reduceSub, reduceIte, Nat.reduceEqDiff, Int.reduceToNat, Int.reduceBEq, Int.reduceBNe, d1, d2, bm, hif, hif2, hE, q, q0, hbE, hes, w1, w2, w4]; (try (first | (refine And.intro (fun _ => ?_) (fun h => absurd h (by decide))) | (refine And.intro (fun h => absurd h (by decide)) (fun _ => ?_)))); (repeat (with_reducible refine And.intro acl ?_)); (first | (refine hK _ _ ?_) | (refine ⟨_, rfl, hK _ _ ?_⟩) | (refine Or.inl (hK _ _ ?_)) | (refine ⟨_, _, Or.inl (f0.go _), (by first | exact ⟨[], (List.append_nil _).symm⟩ | exact ⟨_, rfl⟩), hK _ _ ?_⟩) | (refine ⟨_, _, Or.inl (f0.go _), hK _ _ ?_⟩) | (refine ⟨_, _, Or.inl (f0.go _).weakQ, hK _ _ ?_⟩) | (refine ⟨_, _, Or.inl (np0.go _), (by first | exact ⟨[], (List.append_nil _).symm⟩ | exact ⟨_, rfl⟩), hK _ _ ?_⟩) | (refine ⟨_, _, Or.inl (np0.go _), hK _ _ ?_⟩) | (refine ⟨_, _, Or.inl (np0.go _).weakQ, hK _ _ ?_⟩) | (refine ⟨_, _, Or.inl (np5.go _), (by first | exact ⟨[], (List.append_nil _).symm⟩ | exact ⟨_, rfl⟩), hK _ _ ?_⟩) | (refine ⟨_, _, Or.inl (np5.go _), hK _ _ ?_⟩) | (refine ⟨_, _, Or.inl (np5.go _).weakQ, hK _ _ ?_⟩) | (refine ⟨_, _, Or.inl (np8.go _), (by first | exact ⟨[], (List.append_nil _).symm⟩ | exact ⟨_, rfl⟩), hK _ _ ?_⟩) | (refine ⟨_, _, Or.inl (np8.go _), hK _ _ ?_⟩) | (refine ⟨_, _, Or.inl (np8.go _).weakQ, hK _ _ ?_⟩) | (refine ⟨_, _, Or.inl (np11.go _), (by first | exact ⟨[], (List.append_nil _).symm⟩ | exact ⟨_, rfl⟩), hK _ _ ?_⟩) | (refine ⟨_, _, Or.inl (np11.go _), hK _ _ ?_⟩) | (refine ⟨_, _, Or.inl (np11.go _).weakQ, hK _ _ ?_⟩) | (refine ⟨_, _, Or.inl (np14.go _), (by first | exact ⟨[], (List.append_nil _).symm⟩ | exact ⟨_, rfl⟩), hK _ _ ?_⟩) | (refine ⟨_, _, Or.inl (np14.go _), hK _ _ ?_⟩) | (refine ⟨_, _, Or.inl (np14.go _).weakQ, hK _ _ ?_⟩) | (refine ⟨_, _, Or.inl (np17.go _), (by first | exact ⟨[], (List.append_nil _).symm⟩ | exact ⟨_, rfl⟩), hK _ _ ?_⟩) | (refine ⟨_, _, Or.inl (np17.go _), hK _ _ ?_⟩) | (refine ⟨_, _, Or.inl (np17.go _).weakQ, hK _ _ ?_⟩) | (refine ⟨_, _, Or.inl (gp.go _), (by first | exact ⟨[], (List.append_nil _).symm⟩ | exact ⟨_, rfl⟩), hK _ _ ?_⟩) | (refine ⟨_, _, Or.inl (gp.go _), hK _ _ ?_⟩) | (refine ⟨_, _, Or.inl (gp.go _).weakQ, hK _ _ ?_⟩) | (refine ⟨_, _, Or.inl (f1.go _), (by first | exact ⟨[], (List.append_nil _).symm⟩ | exact ⟨_, rfl⟩), hK _ _ ?_⟩) | (refine ⟨_, _, Or.inl (f1.go _), hK _ _ ?_⟩) | (refine ⟨_, _, Or.inl (f1.go _).weakQ, hK _ _ ?_⟩) | (refine ⟨_, _, Or.inl (f2.go _), (by first | exact ⟨[], (List.append_nil _).symm⟩ | exact ⟨_, rfl⟩), hK _ _ ?_⟩) | (refine ⟨_, _, Or.inl (f2.go _), hK _ _ ?_⟩) | (refine ⟨_, _, Or.inl (f2.go _).weakQ, hK _ _ ?_⟩) | (refine ⟨_, _, Or.inl (np1.go _), (by first | exact ⟨[], (List.append_nil _).symm⟩ | exact ⟨_, rfl⟩), hK _ _ ?_⟩) | (refine ⟨_, _, Or.inl (np1.go _), hK _ _ ?_⟩) | (refine ⟨_, _, Or.inl (np1.go _).weakQ, hK _ _ ?_⟩) | (refine ⟨_, _, Or.inl (np4.go _), (by first | exact ⟨[], (List.append_nil _).symm⟩ | exact ⟨_, rfl⟩), hK _ _ ?_⟩) | (refine ⟨_, _, Or.inl (np4.go _), hK _ _ ?_⟩) | (refine ⟨_, _, Or.inl (np4.go _).weakQ, hK _ _ ?_⟩)); clear hK K)
        | (with_reducible refine lops_nil ?_)
        | (with_reducible first | refine lavc_reg ?_ | refine lavc_seq ?_ | refine lavc_block ?_ | refine lavc_skip ?_ | refine lavc_exit ?_ | refine lavc_ret ?_ | refine lavcR_round ?_)
        | (refine lavc_cond rfl (fun _ => ?_) (fun hc => absurd hc (by decide)))
        | (refine lavc_cond rfl (fun hc => absurd hc (by decide)) (fun _ => ?_))
        | (simp only [↓reduceIte, Nat.reduceEqDiff, reduceCtorEq]))
      refine R1 tt ⟨?_⟩
      exact end0 (NR.t2 _ _) rfl
    have d2 : decide (M > 59) = false := by rw [decide_eq_false_iff_not]; omega
    have hov : ¬ (s.size = 25 ∧ (23 < n2 s 20 ∨ 59 < n2 s 23)) := by rw [hA, hM]; omega
    have w5 : IntKind.i64.wrap (0 - (A * 3600 + M * 60)) = -(A * 3600 + M * 60) := by rw [i64z _ (by omega)]; omega
    have hsh : shf s = -(A * 3600 + M * 60) := by unfold shf; rw [if_neg (by omega), if_pos hsg, hA, hM]
    by_cases hok : ¬ (momS s).ok
    · rw [decide_eq_false hok] at gp
      have er : readP s = (0, 12) := by unfold readP; rw [if_neg (not_not_intro hF0), if_neg hov, if_pos hok]
      rw [er]
      repeat (first
        | (with_reducible refine lops_step fun K hK => ?_; simp (disch := first | exact dch | fail) only [go_sem, Nat.reduceAdd, Nat.reduceSub, reduceIte, Nat.reduceEqDiff, Int.reduceToNat, Int.reduceBEq, Int.reduceBNe, d1, d2, w5, bm, hif, hif2, hE, q, q0, hbE, hes, w1, w2, w4]; (try (first | (refine And.intro (fun _ => ?_) (fun h => absurd h (by decide))) | (refine And.intro (fun h => absurd h (by decide)) (fun _ => ?_)))); (repeat (with_reducible refine And.intro acl ?_)); (first | (refine hK _ _ ?_) | (refine ⟨_, rfl, hK _ _ ?_⟩) | (refine Or.inl (hK _ _ ?_)) | (refine ⟨_, _, Or.inl (f0.go _), (by first | exact ⟨[], (List.append_nil _).symm⟩ | exact ⟨_, rfl⟩), hK _ _ ?_⟩) | (refine ⟨_, _, Or.inl (f0.go _), hK _ _ ?_⟩) | (refine ⟨_, _, Or.inl (f0.go _).weakQ, hK _ _ ?_⟩) | (refine ⟨_, _, Or.inl (np0.go _), (by first | exact ⟨[], (List.append_nil _).symm⟩ | exact ⟨_, rfl⟩), hK _ _ ?_⟩) | (refine ⟨_, _, Or.inl (np0.go _), hK _ _ ?_⟩) | (refine ⟨_, _, Or.inl (np0.go _).weakQ, hK _ _ ?_⟩) | (refine ⟨_, _, Or.inl (np5.go _), (by first | exact ⟨[], (List.append_nil _).symm⟩ | exact ⟨_, rfl⟩), hK _ _ ?_⟩) | (refine ⟨_, _, Or.inl (np5.go _), hK _ _ ?_⟩) | (refine ⟨_, _, Or.inl (np5.go _).weakQ, hK _ _ ?_⟩) | (refine ⟨_, _, Or.inl (np8.go _), (by first | exact ⟨[], (List.append_nil _).symm⟩ | exact ⟨_, rfl⟩), hK _ _ ?_⟩) | (refine ⟨_, _, Or.inl (np8.go _), hK _ _ ?_⟩) | (refine ⟨_, _, Or.inl (np8.go _).weakQ, hK _ _ ?_⟩) | (refine ⟨_, _, Or.inl (np11.go _), (by first | exact ⟨[], (List.append_nil _).symm⟩ | exact ⟨_, rfl⟩), hK _ _ ?_⟩) | (refine ⟨_, _, Or.inl (np11.go _), hK _ _ ?_⟩) | (refine ⟨_, _, Or.inl (np11.go _).weakQ, hK _ _ ?_⟩) | (refine ⟨_, _, Or.inl (np14.go _), (by first | exact ⟨[], (List.append_nil _).symm⟩ | exact ⟨_, rfl⟩), hK _ _ ?_⟩) | (refine ⟨_, _, Or.inl (np14.go _), hK _ _ ?_⟩) | (refine ⟨_, _, Or.inl (np14.go _).weakQ, hK _ _ ?_⟩) | (refine ⟨_, _, Or.inl (np17.go _), (by first | exact ⟨[], (List.append_nil _).symm⟩ | exact ⟨_, rfl⟩), hK _ _ ?_⟩) | (refine ⟨_, _, Or.inl (np17.go _), hK _ _ ?_⟩) | (refine ⟨_, _, Or.inl (np17.go _).weakQ, hK _ _ ?_⟩) | (refine ⟨_, _, Or.inl (gp.go _), (by first | exact ⟨[], (List.append_nil _).symm⟩ | exact ⟨_, rfl⟩), hK _ _ ?_⟩) | (refine ⟨_, _, Or.inl (gp.go _), hK _ _ ?_⟩) | (refine ⟨_, _, Or.inl (gp.go _).weakQ, hK _ _ ?_⟩) | (refine ⟨_, _, Or.inl (f1.go _), (by first | exact ⟨[], (List.append_nil _).symm⟩ | exact ⟨_, rfl⟩), hK _ _ ?_⟩) | (refine ⟨_, _, Or.inl (f1.go _), hK _ _ ?_⟩) | (refine ⟨_, _, Or.inl (f1.go _).weakQ, hK _ _ ?_⟩) | (refine ⟨_, _, Or.inl (f2.go _), (by first | exact ⟨[], (List.append_nil _).symm⟩ | exact ⟨_, rfl⟩), hK _ _ ?_⟩) | (refine ⟨_, _, Or.inl (f2.go _), hK _ _ ?_⟩) | (refine ⟨_, _, Or.inl (f2.go _).weakQ, hK _ _ ?_⟩) | (refine ⟨_, _, Or.inl (np1.go _), (by first | exact ⟨[], (List.append_nil _).symm⟩ | exact ⟨_, rfl⟩), hK _ _ ?_⟩) | (refine ⟨_, _, Or.inl (np1.go _), hK _ _ ?_⟩) | (refine ⟨_, _, Or.inl (np1.go _).weakQ, hK _ _ ?_⟩) | (refine ⟨_, _, Or.inl (np4.go _), (by first | exact ⟨[], (List.append_nil _).symm⟩ | exact ⟨_, rfl⟩), hK _ _ ?_⟩) | (refine ⟨_, _, Or.inl (np4.go _), hK _ _ ?_⟩) | (refine ⟨_, _, Or.inl (np4.go _).weakQ, hK _ _ ?_⟩)); clear hK K)
        | (with_reducible refine lops_nil ?_)
        | (with_reducible first | refine lavc_reg ?_ | refine lavc_seq ?_ | refine lavc_block ?_ | refine lavc_skip ?_ | refine lavc_exit ?_ | refine lavc_ret ?_ | refine lavcR_round ?_)
        | (refine lavc_cond rfl (fun _ => ?_) (fun hc => absurd hc (by decide)))
        | (refine lavc_cond rfl (fun hc => absurd hc (by decide)) (fun _ => ?_))
        | (simp only [↓reduceIte, Nat.reduceEqDiff, reduceCtorEq]))
      refine R1 tt ⟨?_⟩
      exact end0 (NR.t2 _ _) rfl
    replace hok := Decidable.not_not.1 hok
    rw [decide_eq_true hok] at gp
    have sp := seconds_p (momS s) hok
    rw [emv] at sp
    have hsi := secs_in hok
    unfold tFirst tLast at hsi
    have w3 := i64z (secs (momS s) + (-(A * 3600 + M * 60))) (by omega)
    have tp := time_p (secs (momS s) + (-(A * 3600 + M * 60)))
    obtain ⟨N, hN⟩ : ∃ N, secs (momS s) = N := ⟨_, rfl⟩
    by_cases ht : ¬ (tFirst ≤ secs (momS s) + (-(A * 3600 + M * 60)) ∧ secs (momS s) + (-(A * 3600 + M * 60)) ≤ tLast)
    · rw [decide_eq_false ht] at tp
      have er : readP s = (0, 12) := by unfold readP; rw [if_neg (not_not_intro hF0), if_neg hov, if_neg (not_not_intro hok), hsh, if_pos ht]
      rw [er]
      rw [hN] at sp tp w3
      repeat (first
        | (with_reducible refine lops_step fun K hK => ?_; simp (disch := first | exact dch | fail) only [go_sem, Nat.reduceAdd, Nat.reduceSub, reduceIte, Nat.reduceEqDiff, Int.reduceToNat, Int.reduceBEq, Int.reduceBNe, w3, d1, d2, w5, bm, hif, hif2, hE, q, q0, hbE, hes, w1, w2, w4]; (try (first | (refine And.intro (fun _ => ?_) (fun h => absurd h (by decide))) | (refine And.intro (fun h => absurd h (by decide)) (fun _ => ?_)))); (repeat (with_reducible refine And.intro acl ?_)); (first | (refine hK _ _ ?_) | (refine ⟨_, rfl, hK _ _ ?_⟩) | (refine Or.inl (hK _ _ ?_)) | (refine ⟨_, _, Or.inl (f0.go _), (by first | exact ⟨[], (List.append_nil _).symm⟩ | exact ⟨_, rfl⟩), hK _ _ ?_⟩) | (refine ⟨_, _, Or.inl (f0.go _), hK _ _ ?_⟩) | (refine ⟨_, _, Or.inl (f0.go _).weakQ, hK _ _ ?_⟩) | (refine ⟨_, _, Or.inl (np0.go _), (by first | exact ⟨[], (List.append_nil _).symm⟩ | exact ⟨_, rfl⟩), hK _ _ ?_⟩) | (refine ⟨_, _, Or.inl (np0.go _), hK _ _ ?_⟩) | (refine ⟨_, _, Or.inl (np0.go _).weakQ, hK _ _ ?_⟩) | (refine ⟨_, _, Or.inl (np5.go _), (by first | exact ⟨[], (List.append_nil _).symm⟩ | exact ⟨_, rfl⟩), hK _ _ ?_⟩) | (refine ⟨_, _, Or.inl (np5.go _), hK _ _ ?_⟩) | (refine ⟨_, _, Or.inl (np5.go _).weakQ, hK _ _ ?_⟩) | (refine ⟨_, _, Or.inl (np8.go _), (by first | exact ⟨[], (List.append_nil _).symm⟩ | exact ⟨_, rfl⟩), hK _ _ ?_⟩) | (refine ⟨_, _, Or.inl (np8.go _), hK _ _ ?_⟩) | (refine ⟨_, _, Or.inl (np8.go _).weakQ, hK _ _ ?_⟩) | (refine ⟨_, _, Or.inl (np11.go _), (by first | exact ⟨[], (List.append_nil _).symm⟩ | exact ⟨_, rfl⟩), hK _ _ ?_⟩) | (refine ⟨_, _, Or.inl (np11.go _), hK _ _ ?_⟩) | (refine ⟨_, _, Or.inl (np11.go _).weakQ, hK _ _ ?_⟩) | (refine ⟨_, _, Or.inl (np14.go _), (by first | exact ⟨[], (List.append_nil _).symm⟩ | exact ⟨_, rfl⟩), hK _ _ ?_⟩) | (refine ⟨_, _, Or.inl (np14.go _), hK _ _ ?_⟩) | (refine ⟨_, _, Or.inl (np14.go _).weakQ, hK _ _ ?_⟩) | (refine ⟨_, _, Or.inl (np17.go _), (by first | exact ⟨[], (List.append_nil _).symm⟩ | exact ⟨_, rfl⟩), hK _ _ ?_⟩) | (refine ⟨_, _, Or.inl (np17.go _), hK _ _ ?_⟩) | (refine ⟨_, _, Or.inl (np17.go _).weakQ, hK _ _ ?_⟩) | (refine ⟨_, _, Or.inl (gp.go _), (by first | exact ⟨[], (List.append_nil _).symm⟩ | exact ⟨_, rfl⟩), hK _ _ ?_⟩) | (refine ⟨_, _, Or.inl (gp.go _), hK _ _ ?_⟩) | (refine ⟨_, _, Or.inl (gp.go _).weakQ, hK _ _ ?_⟩) | (refine ⟨_, _, Or.inl (f1.go _), (by first | exact ⟨[], (List.append_nil _).symm⟩ | exact ⟨_, rfl⟩), hK _ _ ?_⟩) | (refine ⟨_, _, Or.inl (f1.go _), hK _ _ ?_⟩) | (refine ⟨_, _, Or.inl (f1.go _).weakQ, hK _ _ ?_⟩) | (refine ⟨_, _, Or.inl (f2.go _), (by first | exact ⟨[], (List.append_nil _).symm⟩ | exact ⟨_, rfl⟩), hK _ _ ?_⟩) | (refine ⟨_, _, Or.inl (f2.go _), hK _ _ ?_⟩) | (refine ⟨_, _, Or.inl (f2.go _).weakQ, hK _ _ ?_⟩) | (refine ⟨_, _, Or.inl (np1.go _), (by first | exact ⟨[], (List.append_nil _).symm⟩ | exact ⟨_, rfl⟩), hK _ _ ?_⟩) | (refine ⟨_, _, Or.inl (np1.go _), hK _ _ ?_⟩) | (refine ⟨_, _, Or.inl (np1.go _).weakQ, hK _ _ ?_⟩) | (refine ⟨_, _, Or.inl (np4.go _), (by first | exact ⟨[], (List.append_nil _).symm⟩ | exact ⟨_, rfl⟩), hK _ _ ?_⟩) | (refine ⟨_, _, Or.inl (np4.go _), hK _ _ ?_⟩) | (refine ⟨_, _, Or.inl (np4.go _).weakQ, hK _ _ ?_⟩) | (refine ⟨_, _, Or.inl (sp.go _), (by first | exact ⟨[], (List.append_nil _).symm⟩ | exact ⟨_, rfl⟩), hK _ _ ?_⟩) | (refine ⟨_, _, Or.inl (sp.go _), hK _ _ ?_⟩) | (refine ⟨_, _, Or.inl (sp.go _).weakQ, hK _ _ ?_⟩) | (refine ⟨_, _, Or.inl (tp.go _), (by first | exact ⟨[], (List.append_nil _).symm⟩ | exact ⟨_, rfl⟩), hK _ _ ?_⟩) | (refine ⟨_, _, Or.inl (tp.go _), hK _ _ ?_⟩) | (refine ⟨_, _, Or.inl (tp.go _).weakQ, hK _ _ ?_⟩)); clear hK K)
        | (with_reducible refine lops_nil ?_)
        | (with_reducible first | refine lavc_reg ?_ | refine lavc_seq ?_ | refine lavc_block ?_ | refine lavc_skip ?_ | refine lavc_exit ?_ | refine lavc_ret ?_ | refine lavcR_round ?_)
        | (refine lavc_cond rfl (fun _ => ?_) (fun hc => absurd hc (by decide)))
        | (refine lavc_cond rfl (fun hc => absurd hc (by decide)) (fun _ => ?_))
        | (simp only [↓reduceIte, Nat.reduceEqDiff, reduceCtorEq]))
      refine R1 tt ⟨?_⟩
      exact end0 (NR.t2 _ _) rfl
    replace ht := Decidable.not_not.1 ht
    rw [decide_eq_true ht] at tp
    have er : readP s = (secs (momS s) + (-(A * 3600 + M * 60)), 0) := by unfold readP; rw [if_neg (not_not_intro hF0), if_neg hov, if_neg (not_not_intro hok), hsh, if_neg (not_not_intro ht)]
    rw [er]
    rw [hN] at sp tp w3 ⊢
    repeat (first
      | (with_reducible refine lops_step fun K hK => ?_; simp (disch := first | exact dch | fail) only [go_sem, Nat.reduceAdd, Nat.reduceSub, reduceIte, Nat.reduceEqDiff, Int.reduceToNat, Int.reduceBEq, Int.reduceBNe, w3, d1, d2, w5, bm, hif, hif2, hE, q, q0, hbE, hes, w1, w2, w4]; (try (first | (refine And.intro (fun _ => ?_) (fun h => absurd h (by decide))) | (refine And.intro (fun h => absurd h (by decide)) (fun _ => ?_)))); (repeat (with_reducible refine And.intro acl ?_)); (first | (refine hK _ _ ?_) | (refine ⟨_, rfl, hK _ _ ?_⟩) | (refine Or.inl (hK _ _ ?_)) | (refine ⟨_, _, Or.inl (f0.go _), (by first | exact ⟨[], (List.append_nil _).symm⟩ | exact ⟨_, rfl⟩), hK _ _ ?_⟩) | (refine ⟨_, _, Or.inl (f0.go _), hK _ _ ?_⟩) | (refine ⟨_, _, Or.inl (f0.go _).weakQ, hK _ _ ?_⟩) | (refine ⟨_, _, Or.inl (np0.go _), (by first | exact ⟨[], (List.append_nil _).symm⟩ | exact ⟨_, rfl⟩), hK _ _ ?_⟩) | (refine ⟨_, _, Or.inl (np0.go _), hK _ _ ?_⟩) | (refine ⟨_, _, Or.inl (np0.go _).weakQ, hK _ _ ?_⟩) | (refine ⟨_, _, Or.inl (np5.go _), (by first | exact ⟨[], (List.append_nil _).symm⟩ | exact ⟨_, rfl⟩), hK _ _ ?_⟩) | (refine ⟨_, _, Or.inl (np5.go _), hK _ _ ?_⟩) | (refine ⟨_, _, Or.inl (np5.go _).weakQ, hK _ _ ?_⟩) | (refine ⟨_, _, Or.inl (np8.go _), (by first | exact ⟨[], (List.append_nil _).symm⟩ | exact ⟨_, rfl⟩), hK _ _ ?_⟩) | (refine ⟨_, _, Or.inl (np8.go _), hK _ _ ?_⟩) | (refine ⟨_, _, Or.inl (np8.go _).weakQ, hK _ _ ?_⟩) | (refine ⟨_, _, Or.inl (np11.go _), (by first | exact ⟨[], (List.append_nil _).symm⟩ | exact ⟨_, rfl⟩), hK _ _ ?_⟩) | (refine ⟨_, _, Or.inl (np11.go _), hK _ _ ?_⟩) | (refine ⟨_, _, Or.inl (np11.go _).weakQ, hK _ _ ?_⟩) | (refine ⟨_, _, Or.inl (np14.go _), (by first | exact ⟨[], (List.append_nil _).symm⟩ | exact ⟨_, rfl⟩), hK _ _ ?_⟩) | (refine ⟨_, _, Or.inl (np14.go _), hK _ _ ?_⟩) | (refine ⟨_, _, Or.inl (np14.go _).weakQ, hK _ _ ?_⟩) | (refine ⟨_, _, Or.inl (np17.go _), (by first | exact ⟨[], (List.append_nil _).symm⟩ | exact ⟨_, rfl⟩), hK _ _ ?_⟩) | (refine ⟨_, _, Or.inl (np17.go _), hK _ _ ?_⟩) | (refine ⟨_, _, Or.inl (np17.go _).weakQ, hK _ _ ?_⟩) | (refine ⟨_, _, Or.inl (gp.go _), (by first | exact ⟨[], (List.append_nil _).symm⟩ | exact ⟨_, rfl⟩), hK _ _ ?_⟩) | (refine ⟨_, _, Or.inl (gp.go _), hK _ _ ?_⟩) | (refine ⟨_, _, Or.inl (gp.go _).weakQ, hK _ _ ?_⟩) | (refine ⟨_, _, Or.inl (f1.go _), (by first | exact ⟨[], (List.append_nil _).symm⟩ | exact ⟨_, rfl⟩), hK _ _ ?_⟩) | (refine ⟨_, _, Or.inl (f1.go _), hK _ _ ?_⟩) | (refine ⟨_, _, Or.inl (f1.go _).weakQ, hK _ _ ?_⟩) | (refine ⟨_, _, Or.inl (f2.go _), (by first | exact ⟨[], (List.append_nil _).symm⟩ | exact ⟨_, rfl⟩), hK _ _ ?_⟩) | (refine ⟨_, _, Or.inl (f2.go _), hK _ _ ?_⟩) | (refine ⟨_, _, Or.inl (f2.go _).weakQ, hK _ _ ?_⟩) | (refine ⟨_, _, Or.inl (np1.go _), (by first | exact ⟨[], (List.append_nil _).symm⟩ | exact ⟨_, rfl⟩), hK _ _ ?_⟩) | (refine ⟨_, _, Or.inl (np1.go _), hK _ _ ?_⟩) | (refine ⟨_, _, Or.inl (np1.go _).weakQ, hK _ _ ?_⟩) | (refine ⟨_, _, Or.inl (np4.go _), (by first | exact ⟨[], (List.append_nil _).symm⟩ | exact ⟨_, rfl⟩), hK _ _ ?_⟩) | (refine ⟨_, _, Or.inl (np4.go _), hK _ _ ?_⟩) | (refine ⟨_, _, Or.inl (np4.go _).weakQ, hK _ _ ?_⟩) | (refine ⟨_, _, Or.inl (sp.go _), (by first | exact ⟨[], (List.append_nil _).symm⟩ | exact ⟨_, rfl⟩), hK _ _ ?_⟩) | (refine ⟨_, _, Or.inl (sp.go _), hK _ _ ?_⟩) | (refine ⟨_, _, Or.inl (sp.go _).weakQ, hK _ _ ?_⟩) | (refine ⟨_, _, Or.inl (tp.go _), (by first | exact ⟨[], (List.append_nil _).symm⟩ | exact ⟨_, rfl⟩), hK _ _ ?_⟩) | (refine ⟨_, _, Or.inl (tp.go _), hK _ _ ?_⟩) | (refine ⟨_, _, Or.inl (tp.go _).weakQ, hK _ _ ?_⟩)); clear hK K)
      | (with_reducible refine lops_nil ?_)
      | (with_reducible first | refine lavc_reg ?_ | refine lavc_seq ?_ | refine lavc_block ?_ | refine lavc_skip ?_ | refine lavc_exit ?_ | refine lavc_ret ?_ | refine lavcR_round ?_)
      | (refine lavc_cond rfl (fun _ => ?_) (fun hc => absurd hc (by decide)))
      | (refine lavc_cond rfl (fun hc => absurd hc (by decide)) (fun _ => ?_))
      | (simp only [↓reduceIte, Nat.reduceEqDiff, reduceCtorEq]))
    refine R1 tt ⟨?_⟩
    exact end0 (NR.t2 _ _) rfl
  · have g1 : ¬ Fits E FP := fun h => by have := ((fitsP E).1 h).2.1; rw [b1 0 (by omega), hsg] at this; omega
    have g2 : Fits E FM := (fitsM E).2 ⟨hes, by unfold DSh; rw [b1 0 (by omega), b1 3 (by omega)]; exact ⟨hsg, dE1, h22, dE4⟩⟩
    rw [decide_eq_false g1] at f1
    rw [decide_eq_true g2] at f2
    have q0 : ((bt s 19 : Int) == 43) = false := by rw [hsg]; rfl
    by_cases ho1 : 23 < A
    · have d1 : decide (A > 23) = true := by rw [decide_eq_true_eq]; omega
      have er : readP s = (0, 12) := by unfold readP; rw [if_neg (not_not_intro hF0), if_pos ⟨hs, by rw [hA]; exact .inl ho1⟩]
      rw [er]
      repeat (first
        | (with_reducible refine lops_step fun K hK => ?_; simp (disch := first | exact dch | fail) only [go_sem, Nat.reduceAdd, Nat.reduceSub, reduceIte, Nat.reduceEqDiff, Int.reduceToNat, Int.reduceBEq, Int.reduceBNe, d1, bm, hif, hif2, hE, q, q0, hbE, hes, w1, w2, w4]; (try (first | (refine And.intro (fun _ => ?_) (fun h => absurd h (by decide))) | (refine And.intro (fun h => absurd h (by decide)) (fun _ => ?_)))); (repeat (with_reducible refine And.intro acl ?_)); (first | (refine hK _ _ ?_) | (refine ⟨_, rfl, hK _ _ ?_⟩) | (refine Or.inl (hK _ _ ?_)) | (refine ⟨_, _, Or.inl (f0.go _), (by first | exact ⟨[], (List.append_nil _).symm⟩ | exact ⟨_, rfl⟩), hK _ _ ?_⟩) | (refine ⟨_, _, Or.inl (f0.go _), hK _ _ ?_⟩) | (refine ⟨_, _, Or.inl (f0.go _).weakQ, hK _ _ ?_⟩) | (refine ⟨_, _, Or.inl (np0.go _), (by first | exact ⟨[], (List.append_nil _).symm⟩ | exact ⟨_, rfl⟩), hK _ _ ?_⟩) | (refine ⟨_, _, Or.inl (np0.go _), hK _ _ ?_⟩) | (refine ⟨_, _, Or.inl (np0.go _).weakQ, hK _ _ ?_⟩) | (refine ⟨_, _, Or.inl (np5.go _), (by first | exact ⟨[], (List.append_nil _).symm⟩ | exact ⟨_, rfl⟩), hK _ _ ?_⟩) | (refine ⟨_, _, Or.inl (np5.go _), hK _ _ ?_⟩) | (refine ⟨_, _, Or.inl (np5.go _).weakQ, hK _ _ ?_⟩) | (refine ⟨_, _, Or.inl (np8.go _), (by first | exact ⟨[], (List.append_nil _).symm⟩ | exact ⟨_, rfl⟩), hK _ _ ?_⟩) | (refine ⟨_, _, Or.inl (np8.go _), hK _ _ ?_⟩) | (refine ⟨_, _, Or.inl (np8.go _).weakQ, hK _ _ ?_⟩) | (refine ⟨_, _, Or.inl (np11.go _), (by first | exact ⟨[], (List.append_nil _).symm⟩ | exact ⟨_, rfl⟩), hK _ _ ?_⟩) | (refine ⟨_, _, Or.inl (np11.go _), hK _ _ ?_⟩) | (refine ⟨_, _, Or.inl (np11.go _).weakQ, hK _ _ ?_⟩) | (refine ⟨_, _, Or.inl (np14.go _), (by first | exact ⟨[], (List.append_nil _).symm⟩ | exact ⟨_, rfl⟩), hK _ _ ?_⟩) | (refine ⟨_, _, Or.inl (np14.go _), hK _ _ ?_⟩) | (refine ⟨_, _, Or.inl (np14.go _).weakQ, hK _ _ ?_⟩) | (refine ⟨_, _, Or.inl (np17.go _), (by first | exact ⟨[], (List.append_nil _).symm⟩ | exact ⟨_, rfl⟩), hK _ _ ?_⟩) | (refine ⟨_, _, Or.inl (np17.go _), hK _ _ ?_⟩) | (refine ⟨_, _, Or.inl (np17.go _).weakQ, hK _ _ ?_⟩) | (refine ⟨_, _, Or.inl (gp.go _), (by first | exact ⟨[], (List.append_nil _).symm⟩ | exact ⟨_, rfl⟩), hK _ _ ?_⟩) | (refine ⟨_, _, Or.inl (gp.go _), hK _ _ ?_⟩) | (refine ⟨_, _, Or.inl (gp.go _).weakQ, hK _ _ ?_⟩) | (refine ⟨_, _, Or.inl (f1.go _), (by first | exact ⟨[], (List.append_nil _).symm⟩ | exact ⟨_, rfl⟩), hK _ _ ?_⟩) | (refine ⟨_, _, Or.inl (f1.go _), hK _ _ ?_⟩) | (refine ⟨_, _, Or.inl (f1.go _).weakQ, hK _ _ ?_⟩) | (refine ⟨_, _, Or.inl (f2.go _), (by first | exact ⟨[], (List.append_nil _).symm⟩ | exact ⟨_, rfl⟩), hK _ _ ?_⟩) | (refine ⟨_, _, Or.inl (f2.go _), hK _ _ ?_⟩) | (refine ⟨_, _, Or.inl (f2.go _).weakQ, hK _ _ ?_⟩) | (refine ⟨_, _, Or.inl (np1.go _), (by first | exact ⟨[], (List.append_nil _).symm⟩ | exact ⟨_, rfl⟩), hK _ _ ?_⟩) | (refine ⟨_, _, Or.inl (np1.go _), hK _ _ ?_⟩) | (refine ⟨_, _, Or.inl (np1.go _).weakQ, hK _ _ ?_⟩) | (refine ⟨_, _, Or.inl (np4.go _), (by first | exact ⟨[], (List.append_nil _).symm⟩ | exact ⟨_, rfl⟩), hK _ _ ?_⟩) | (refine ⟨_, _, Or.inl (np4.go _), hK _ _ ?_⟩) | (refine ⟨_, _, Or.inl (np4.go _).weakQ, hK _ _ ?_⟩)); clear hK K)
        | (with_reducible refine lops_nil ?_)
        | (with_reducible first | refine lavc_reg ?_ | refine lavc_seq ?_ | refine lavc_block ?_ | refine lavc_skip ?_ | refine lavc_exit ?_ | refine lavc_ret ?_ | refine lavcR_round ?_)
        | (refine lavc_cond rfl (fun _ => ?_) (fun hc => absurd hc (by decide)))
        | (refine lavc_cond rfl (fun hc => absurd hc (by decide)) (fun _ => ?_))
        | (simp only [↓reduceIte, Nat.reduceEqDiff, reduceCtorEq]))
      refine R1 tt ⟨?_⟩
      exact end0 (NR.t2 _ _) rfl
    have d1 : decide (A > 23) = false := by rw [decide_eq_false_iff_not]; omega
    by_cases ho2 : 59 < M
    · have d2 : decide (M > 59) = true := by rw [decide_eq_true_eq]; omega
      have er : readP s = (0, 12) := by unfold readP; rw [if_neg (not_not_intro hF0), if_pos ⟨hs, by rw [hM]; exact .inr ho2⟩]
      rw [er]
      repeat (first
        | (with_reducible refine lops_step fun K hK => ?_; simp (disch := first | exact dch | fail) only [go_sem, Nat.reduceAdd, Nat.reduceSub, reduceIte, Nat.reduceEqDiff, Int.reduceToNat, Int.reduceBEq, Int.reduceBNe, d1, d2, bm, hif, hif2, hE, q, q0, hbE, hes, w1, w2, w4]; (try (first | (refine And.intro (fun _ => ?_) (fun h => absurd h (by decide))) | (refine And.intro (fun h => absurd h (by decide)) (fun _ => ?_)))); (repeat (with_reducible refine And.intro acl ?_)); (first | (refine hK _ _ ?_) | (refine ⟨_, rfl, hK _ _ ?_⟩) | (refine Or.inl (hK _ _ ?_)) | (refine ⟨_, _, Or.inl (f0.go _), (by first | exact ⟨[], (List.append_nil _).symm⟩ | exact ⟨_, rfl⟩), hK _ _ ?_⟩) | (refine ⟨_, _, Or.inl (f0.go _), hK _ _ ?_⟩) | (refine ⟨_, _, Or.inl (f0.go _).weakQ, hK _ _ ?_⟩) | (refine ⟨_, _, Or.inl (np0.go _), (by first | exact ⟨[], (List.append_nil _).symm⟩ | exact ⟨_, rfl⟩), hK _ _ ?_⟩) | (refine ⟨_, _, Or.inl (np0.go _), hK _ _ ?_⟩) | (refine ⟨_, _, Or.inl (np0.go _).weakQ, hK _ _ ?_⟩) | (refine ⟨_, _, Or.inl (np5.go _), (by first | exact ⟨[], (List.append_nil _).symm⟩ | exact ⟨_, rfl⟩), hK _ _ ?_⟩) | (refine ⟨_, _, Or.inl (np5.go _), hK _ _ ?_⟩) | (refine ⟨_, _, Or.inl (np5.go _).weakQ, hK _ _ ?_⟩) | (refine ⟨_, _, Or.inl (np8.go _), (by first | exact ⟨[], (List.append_nil _).symm⟩ | exact ⟨_, rfl⟩), hK _ _ ?_⟩) | (refine ⟨_, _, Or.inl (np8.go _), hK _ _ ?_⟩) | (refine ⟨_, _, Or.inl (np8.go _).weakQ, hK _ _ ?_⟩) | (refine ⟨_, _, Or.inl (np11.go _), (by first | exact ⟨[], (List.append_nil _).symm⟩ | exact ⟨_, rfl⟩), hK _ _ ?_⟩) | (refine ⟨_, _, Or.inl (np11.go _), hK _ _ ?_⟩) | (refine ⟨_, _, Or.inl (np11.go _).weakQ, hK _ _ ?_⟩) | (refine ⟨_, _, Or.inl (np14.go _), (by first | exact ⟨[], (List.append_nil _).symm⟩ | exact ⟨_, rfl⟩), hK _ _ ?_⟩) | (refine ⟨_, _, Or.inl (np14.go _), hK _ _ ?_⟩) | (refine ⟨_, _, Or.inl (np14.go _).weakQ, hK _ _ ?_⟩) | (refine ⟨_, _, Or.inl (np17.go _), (by first | exact ⟨[], (List.append_nil _).symm⟩ | exact ⟨_, rfl⟩), hK _ _ ?_⟩) | (refine ⟨_, _, Or.inl (np17.go _), hK _ _ ?_⟩) | (refine ⟨_, _, Or.inl (np17.go _).weakQ, hK _ _ ?_⟩) | (refine ⟨_, _, Or.inl (gp.go _), (by first | exact ⟨[], (List.append_nil _).symm⟩ | exact ⟨_, rfl⟩), hK _ _ ?_⟩) | (refine ⟨_, _, Or.inl (gp.go _), hK _ _ ?_⟩) | (refine ⟨_, _, Or.inl (gp.go _).weakQ, hK _ _ ?_⟩) | (refine ⟨_, _, Or.inl (f1.go _), (by first | exact ⟨[], (List.append_nil _).symm⟩ | exact ⟨_, rfl⟩), hK _ _ ?_⟩) | (refine ⟨_, _, Or.inl (f1.go _), hK _ _ ?_⟩) | (refine ⟨_, _, Or.inl (f1.go _).weakQ, hK _ _ ?_⟩) | (refine ⟨_, _, Or.inl (f2.go _), (by first | exact ⟨[], (List.append_nil _).symm⟩ | exact ⟨_, rfl⟩), hK _ _ ?_⟩) | (refine ⟨_, _, Or.inl (f2.go _), hK _ _ ?_⟩) | (refine ⟨_, _, Or.inl (f2.go _).weakQ, hK _ _ ?_⟩) | (refine ⟨_, _, Or.inl (np1.go _), (by first | exact ⟨[], (List.append_nil _).symm⟩ | exact ⟨_, rfl⟩), hK _ _ ?_⟩) | (refine ⟨_, _, Or.inl (np1.go _), hK _ _ ?_⟩) | (refine ⟨_, _, Or.inl (np1.go _).weakQ, hK _ _ ?_⟩) | (refine ⟨_, _, Or.inl (np4.go _), (by first | exact ⟨[], (List.append_nil _).symm⟩ | exact ⟨_, rfl⟩), hK _ _ ?_⟩) | (refine ⟨_, _, Or.inl (np4.go _), hK _ _ ?_⟩) | (refine ⟨_, _, Or.inl (np4.go _).weakQ, hK _ _ ?_⟩)); clear hK K)
        | (with_reducible refine lops_nil ?_)
        | (with_reducible first | refine lavc_reg ?_ | refine lavc_seq ?_ | refine lavc_block ?_ | refine lavc_skip ?_ | refine lavc_exit ?_ | refine lavc_ret ?_ | refine lavcR_round ?_)
        | (refine lavc_cond rfl (fun _ => ?_) (fun hc => absurd hc (by decide)))
        | (refine lavc_cond rfl (fun hc => absurd hc (by decide)) (fun _ => ?_))
        | (simp only [↓reduceIte, Nat.reduceEqDiff, reduceCtorEq]))
      refine R1 tt ⟨?_⟩
      exact end0 (NR.t2 _ _) rfl
    have d2 : decide (M > 59) = false := by rw [decide_eq_false_iff_not]; omega
    have hov : ¬ (s.size = 25 ∧ (23 < n2 s 20 ∨ 59 < n2 s 23)) := by rw [hA, hM]; omega
    have w5 := trivial
    have hsh : shf s = A * 3600 + M * 60 := by unfold shf; rw [if_neg (by omega), if_neg (by omega), hA, hM]
    by_cases hok : ¬ (momS s).ok
    · rw [decide_eq_false hok] at gp
      have er : readP s = (0, 12) := by unfold readP; rw [if_neg (not_not_intro hF0), if_neg hov, if_pos hok]
      rw [er]
      repeat (first
        | (with_reducible refine lops_step fun K hK => ?_; simp (disch := first | exact dch | fail) only [go_sem, Nat.reduceAdd, Nat.reduceSub, reduceIte, Nat.reduceEqDiff, Int.reduceToNat, Int.reduceBEq, Int.reduceBNe, d1, d2, bm, hif, hif2, hE, q, q0, hbE, hes, w1, w2, w4]; (try (first | (refine And.intro (fun _ => ?_) (fun h => absurd h (by decide))) | (refine And.intro (fun h => absurd h (by decide)) (fun _ => ?_)))); (repeat (with_reducible refine And.intro acl ?_)); (first | (refine hK _ _ ?_) | (refine ⟨_, rfl, hK _ _ ?_⟩) | (refine Or.inl (hK _ _ ?_)) | (refine ⟨_, _, Or.inl (f0.go _), (by first | exact ⟨[], (List.append_nil _).symm⟩ | exact ⟨_, rfl⟩), hK _ _ ?_⟩) | (refine ⟨_, _, Or.inl (f0.go _), hK _ _ ?_⟩) | (refine ⟨_, _, Or.inl (f0.go _).weakQ, hK _ _ ?_⟩) | (refine ⟨_, _, Or.inl (np0.go _), (by first | exact ⟨[], (List.append_nil _).symm⟩ | exact ⟨_, rfl⟩), hK _ _ ?_⟩) | (refine ⟨_, _, Or.inl (np0.go _), hK _ _ ?_⟩) | (refine ⟨_, _, Or.inl (np0.go _).weakQ, hK _ _ ?_⟩) | (refine ⟨_, _, Or.inl (np5.go _), (by first | exact ⟨[], (List.append_nil _).symm⟩ | exact ⟨_, rfl⟩), hK _ _ ?_⟩) | (refine ⟨_, _, Or.inl (np5.go _), hK _ _ ?_⟩) | (refine ⟨_, _, Or.inl (np5.go _).weakQ, hK _ _ ?_⟩) | (refine ⟨_, _, Or.inl (np8.go _), (by first | exact ⟨[], (List.append_nil _).symm⟩ | exact ⟨_, rfl⟩), hK _ _ ?_⟩) | (refine ⟨_, _, Or.inl (np8.go _), hK _ _ ?_⟩) | (refine ⟨_, _, Or.inl (np8.go _).weakQ, hK _ _ ?_⟩) | (refine ⟨_, _, Or.inl (np11.go _), (by first | exact ⟨[], (List.append_nil _).symm⟩ | exact ⟨_, rfl⟩), hK _ _ ?_⟩) | (refine ⟨_, _, Or.inl (np11.go _), hK _ _ ?_⟩) | (refine ⟨_, _, Or.inl (np11.go _).weakQ, hK _ _ ?_⟩) | (refine ⟨_, _, Or.inl (np14.go _), (by first | exact ⟨[], (List.append_nil _).symm⟩ | exact ⟨_, rfl⟩), hK _ _ ?_⟩) | (refine ⟨_, _, Or.inl (np14.go _), hK _ _ ?_⟩) | (refine ⟨_, _, Or.inl (np14.go _).weakQ, hK _ _ ?_⟩) | (refine ⟨_, _, Or.inl (np17.go _), (by first | exact ⟨[], (List.append_nil _).symm⟩ | exact ⟨_, rfl⟩), hK _ _ ?_⟩) | (refine ⟨_, _, Or.inl (np17.go _), hK _ _ ?_⟩) | (refine ⟨_, _, Or.inl (np17.go _).weakQ, hK _ _ ?_⟩) | (refine ⟨_, _, Or.inl (gp.go _), (by first | exact ⟨[], (List.append_nil _).symm⟩ | exact ⟨_, rfl⟩), hK _ _ ?_⟩) | (refine ⟨_, _, Or.inl (gp.go _), hK _ _ ?_⟩) | (refine ⟨_, _, Or.inl (gp.go _).weakQ, hK _ _ ?_⟩) | (refine ⟨_, _, Or.inl (f1.go _), (by first | exact ⟨[], (List.append_nil _).symm⟩ | exact ⟨_, rfl⟩), hK _ _ ?_⟩) | (refine ⟨_, _, Or.inl (f1.go _), hK _ _ ?_⟩) | (refine ⟨_, _, Or.inl (f1.go _).weakQ, hK _ _ ?_⟩) | (refine ⟨_, _, Or.inl (f2.go _), (by first | exact ⟨[], (List.append_nil _).symm⟩ | exact ⟨_, rfl⟩), hK _ _ ?_⟩) | (refine ⟨_, _, Or.inl (f2.go _), hK _ _ ?_⟩) | (refine ⟨_, _, Or.inl (f2.go _).weakQ, hK _ _ ?_⟩) | (refine ⟨_, _, Or.inl (np1.go _), (by first | exact ⟨[], (List.append_nil _).symm⟩ | exact ⟨_, rfl⟩), hK _ _ ?_⟩) | (refine ⟨_, _, Or.inl (np1.go _), hK _ _ ?_⟩) | (refine ⟨_, _, Or.inl (np1.go _).weakQ, hK _ _ ?_⟩) | (refine ⟨_, _, Or.inl (np4.go _), (by first | exact ⟨[], (List.append_nil _).symm⟩ | exact ⟨_, rfl⟩), hK _ _ ?_⟩) | (refine ⟨_, _, Or.inl (np4.go _), hK _ _ ?_⟩) | (refine ⟨_, _, Or.inl (np4.go _).weakQ, hK _ _ ?_⟩)); clear hK K)
        | (with_reducible refine lops_nil ?_)
        | (with_reducible first | refine lavc_reg ?_ | refine lavc_seq ?_ | refine lavc_block ?_ | refine lavc_skip ?_ | refine lavc_exit ?_ | refine lavc_ret ?_ | refine lavcR_round ?_)
        | (refine lavc_cond rfl (fun _ => ?_) (fun hc => absurd hc (by decide)))
        | (refine lavc_cond rfl (fun hc => absurd hc (by decide)) (fun _ => ?_))
        | (simp only [↓reduceIte, Nat.reduceEqDiff, reduceCtorEq]))
      refine R1 tt ⟨?_⟩
      exact end0 (NR.t2 _ _) rfl
    replace hok := Decidable.not_not.1 hok
    rw [decide_eq_true hok] at gp
    have sp := seconds_p (momS s) hok
    rw [emv] at sp
    have hsi := secs_in hok
    unfold tFirst tLast at hsi
    have w3 := i64z (secs (momS s) + (A * 3600 + M * 60)) (by omega)
    have tp := time_p (secs (momS s) + (A * 3600 + M * 60))
    obtain ⟨N, hN⟩ : ∃ N, secs (momS s) = N := ⟨_, rfl⟩
    by_cases ht : ¬ (tFirst ≤ secs (momS s) + (A * 3600 + M * 60) ∧ secs (momS s) + (A * 3600 + M * 60) ≤ tLast)
    · rw [decide_eq_false ht] at tp
      have er : readP s = (0, 12) := by unfold readP; rw [if_neg (not_not_intro hF0), if_neg hov, if_neg (not_not_intro hok), hsh, if_pos ht]
      rw [er]
      rw [hN] at sp tp w3
      repeat (first
        | (with_reducible refine lops_step fun K hK => ?_; simp (disch := first | exact dch | fail) only [go_sem, Nat.reduceAdd, Nat.reduceSub, reduceIte, Nat.reduceEqDiff, Int.reduceToNat, Int.reduceBEq, Int.reduceBNe, w3, d1, d2, bm, hif, hif2, hE, q, q0, hbE, hes, w1, w2, w4]; (try (first | (refine And.intro (fun _ => ?_) (fun h => absurd h (by decide))) | (refine And.intro (fun h => absurd h (by decide)) (fun _ => ?_)))); (repeat (with_reducible refine And.intro acl ?_)); (first | (refine hK _ _ ?_) | (refine ⟨_, rfl, hK _ _ ?_⟩) | (refine Or.inl (hK _ _ ?_)) | (refine ⟨_, _, Or.inl (f0.go _), (by first | exact ⟨[], (List.append_nil _).symm⟩ | exact ⟨_, rfl⟩), hK _ _ ?_⟩) | (refine ⟨_, _, Or.inl (f0.go _), hK _ _ ?_⟩) | (refine ⟨_, _, Or.inl (f0.go _).weakQ, hK _ _ ?_⟩) | (refine ⟨_, _, Or.inl (np0.go _), (by first | exact ⟨[], (List.append_nil _).symm⟩ | exact ⟨_, rfl⟩), hK _ _ ?_⟩) | (refine ⟨_, _, Or.inl (np0.go _), hK _ _ ?_⟩) | (refine ⟨_, _, Or.inl (np0.go _).weakQ, hK _ _ ?_⟩) | (refine ⟨_, _, Or.inl (np5.go _), (by first | exact ⟨[], (List.append_nil _).symm⟩ | exact ⟨_, rfl⟩), hK _ _ ?_⟩) | (refine ⟨_, _, Or.inl (np5.go _), hK _ _ ?_⟩) | (refine ⟨_, _, Or.inl (np5.go _).weakQ, hK _ _ ?_⟩) | (refine ⟨_, _, Or.inl (np8.go _), (by first | exact ⟨[], (List.append_nil _).symm⟩ | exact ⟨_, rfl⟩), hK _ _ ?_⟩) | (refine ⟨_, _, Or.inl (np8.go _), hK _ _ ?_⟩) | (refine ⟨_, _, Or.inl (np8.go _).weakQ, hK _ _ ?_⟩) | (refine ⟨_, _, Or.inl (np11.go _), (by first | exact ⟨[], (List.append_nil _).symm⟩ | exact ⟨_, rfl⟩), hK _ _ ?_⟩) | (refine ⟨_, _, Or.inl (np11.go _), hK _ _ ?_⟩) | (refine ⟨_, _, Or.inl (np11.go _).weakQ, hK _ _ ?_⟩) | (refine ⟨_, _, Or.inl (np14.go _), (by first | exact ⟨[], (List.append_nil _).symm⟩ | exact ⟨_, rfl⟩), hK _ _ ?_⟩) | (refine ⟨_, _, Or.inl (np14.go _), hK _ _ ?_⟩) | (refine ⟨_, _, Or.inl (np14.go _).weakQ, hK _ _ ?_⟩) | (refine ⟨_, _, Or.inl (np17.go _), (by first | exact ⟨[], (List.append_nil _).symm⟩ | exact ⟨_, rfl⟩), hK _ _ ?_⟩) | (refine ⟨_, _, Or.inl (np17.go _), hK _ _ ?_⟩) | (refine ⟨_, _, Or.inl (np17.go _).weakQ, hK _ _ ?_⟩) | (refine ⟨_, _, Or.inl (gp.go _), (by first | exact ⟨[], (List.append_nil _).symm⟩ | exact ⟨_, rfl⟩), hK _ _ ?_⟩) | (refine ⟨_, _, Or.inl (gp.go _), hK _ _ ?_⟩) | (refine ⟨_, _, Or.inl (gp.go _).weakQ, hK _ _ ?_⟩) | (refine ⟨_, _, Or.inl (f1.go _), (by first | exact ⟨[], (List.append_nil _).symm⟩ | exact ⟨_, rfl⟩), hK _ _ ?_⟩) | (refine ⟨_, _, Or.inl (f1.go _), hK _ _ ?_⟩) | (refine ⟨_, _, Or.inl (f1.go _).weakQ, hK _ _ ?_⟩) | (refine ⟨_, _, Or.inl (f2.go _), (by first | exact ⟨[], (List.append_nil _).symm⟩ | exact ⟨_, rfl⟩), hK _ _ ?_⟩) | (refine ⟨_, _, Or.inl (f2.go _), hK _ _ ?_⟩) | (refine ⟨_, _, Or.inl (f2.go _).weakQ, hK _ _ ?_⟩) | (refine ⟨_, _, Or.inl (np1.go _), (by first | exact ⟨[], (List.append_nil _).symm⟩ | exact ⟨_, rfl⟩), hK _ _ ?_⟩) | (refine ⟨_, _, Or.inl (np1.go _), hK _ _ ?_⟩) | (refine ⟨_, _, Or.inl (np1.go _).weakQ, hK _ _ ?_⟩) | (refine ⟨_, _, Or.inl (np4.go _), (by first | exact ⟨[], (List.append_nil _).symm⟩ | exact ⟨_, rfl⟩), hK _ _ ?_⟩) | (refine ⟨_, _, Or.inl (np4.go _), hK _ _ ?_⟩) | (refine ⟨_, _, Or.inl (np4.go _).weakQ, hK _ _ ?_⟩) | (refine ⟨_, _, Or.inl (sp.go _), (by first | exact ⟨[], (List.append_nil _).symm⟩ | exact ⟨_, rfl⟩), hK _ _ ?_⟩) | (refine ⟨_, _, Or.inl (sp.go _), hK _ _ ?_⟩) | (refine ⟨_, _, Or.inl (sp.go _).weakQ, hK _ _ ?_⟩) | (refine ⟨_, _, Or.inl (tp.go _), (by first | exact ⟨[], (List.append_nil _).symm⟩ | exact ⟨_, rfl⟩), hK _ _ ?_⟩) | (refine ⟨_, _, Or.inl (tp.go _), hK _ _ ?_⟩) | (refine ⟨_, _, Or.inl (tp.go _).weakQ, hK _ _ ?_⟩)); clear hK K)
        | (with_reducible refine lops_nil ?_)
        | (with_reducible first | refine lavc_reg ?_ | refine lavc_seq ?_ | refine lavc_block ?_ | refine lavc_skip ?_ | refine lavc_exit ?_ | refine lavc_ret ?_ | refine lavcR_round ?_)
        | (refine lavc_cond rfl (fun _ => ?_) (fun hc => absurd hc (by decide)))
        | (refine lavc_cond rfl (fun hc => absurd hc (by decide)) (fun _ => ?_))
        | (simp only [↓reduceIte, Nat.reduceEqDiff, reduceCtorEq]))
      refine R1 tt ⟨?_⟩
      exact end0 (NR.t2 _ _) rfl
    replace ht := Decidable.not_not.1 ht
    rw [decide_eq_true ht] at tp
    have er : readP s = (secs (momS s) + (A * 3600 + M * 60), 0) := by unfold readP; rw [if_neg (not_not_intro hF0), if_neg hov, if_neg (not_not_intro hok), hsh, if_neg (not_not_intro ht)]
    rw [er]
    rw [hN] at sp tp w3 ⊢
    repeat (first
      | (with_reducible refine lops_step fun K hK => ?_; simp (disch := first | exact dch | fail) only [go_sem, Nat.reduceAdd, Nat.reduceSub, reduceIte, Nat.reduceEqDiff, Int.reduceToNat, Int.reduceBEq, Int.reduceBNe, w3, d1, d2, bm, hif, hif2, hE, q, q0, hbE, hes, w1, w2, w4]; (try (first | (refine And.intro (fun _ => ?_) (fun h => absurd h (by decide))) | (refine And.intro (fun h => absurd h (by decide)) (fun _ => ?_)))); (repeat (with_reducible refine And.intro acl ?_)); (first | (refine hK _ _ ?_) | (refine ⟨_, rfl, hK _ _ ?_⟩) | (refine Or.inl (hK _ _ ?_)) | (refine ⟨_, _, Or.inl (f0.go _), (by first | exact ⟨[], (List.append_nil _).symm⟩ | exact ⟨_, rfl⟩), hK _ _ ?_⟩) | (refine ⟨_, _, Or.inl (f0.go _), hK _ _ ?_⟩) | (refine ⟨_, _, Or.inl (f0.go _).weakQ, hK _ _ ?_⟩) | (refine ⟨_, _, Or.inl (np0.go _), (by first | exact ⟨[], (List.append_nil _).symm⟩ | exact ⟨_, rfl⟩), hK _ _ ?_⟩) | (refine ⟨_, _, Or.inl (np0.go _), hK _ _ ?_⟩) | (refine ⟨_, _, Or.inl (np0.go _).weakQ, hK _ _ ?_⟩) | (refine ⟨_, _, Or.inl (np5.go _), (by first | exact ⟨[], (List.append_nil _).symm⟩ | exact ⟨_, rfl⟩), hK _ _ ?_⟩) | (refine ⟨_, _, Or.inl (np5.go _), hK _ _ ?_⟩) | (refine ⟨_, _, Or.inl (np5.go _).weakQ, hK _ _ ?_⟩) | (refine ⟨_, _, Or.inl (np8.go _), (by first | exact ⟨[], (List.append_nil _).symm⟩ | exact ⟨_, rfl⟩), hK _ _ ?_⟩) | (refine ⟨_, _, Or.inl (np8.go _), hK _ _ ?_⟩) | (refine ⟨_, _, Or.inl (np8.go _).weakQ, hK _ _ ?_⟩) | (refine ⟨_, _, Or.inl (np11.go _), (by first | exact ⟨[], (List.append_nil _).symm⟩ | exact ⟨_, rfl⟩), hK _ _ ?_⟩) | (refine ⟨_, _, Or.inl (np11.go _), hK _ _ ?_⟩) | (refine ⟨_, _, Or.inl (np11.go _).weakQ, hK _ _ ?_⟩) | (refine ⟨_, _, Or.inl (np14.go _), (by first | exact ⟨[], (List.append_nil _).symm⟩ | exact ⟨_, rfl⟩), hK _ _ ?_⟩) | (refine ⟨_, _, Or.inl (np14.go _), hK _ _ ?_⟩) | (refine ⟨_, _, Or.inl (np14.go _).weakQ, hK _ _ ?_⟩) | (refine ⟨_, _, Or.inl (np17.go _), (by first | exact ⟨[], (List.append_nil _).symm⟩ | exact ⟨_, rfl⟩), hK _ _ ?_⟩) | (refine ⟨_, _, Or.inl (np17.go _), hK _ _ ?_⟩) | (refine ⟨_, _, Or.inl (np17.go _).weakQ, hK _ _ ?_⟩) | (refine ⟨_, _, Or.inl (gp.go _), (by first | exact ⟨[], (List.append_nil _).symm⟩ | exact ⟨_, rfl⟩), hK _ _ ?_⟩) | (refine ⟨_, _, Or.inl (gp.go _), hK _ _ ?_⟩) | (refine ⟨_, _, Or.inl (gp.go _).weakQ, hK _ _ ?_⟩) | (refine ⟨_, _, Or.inl (f1.go _), (by first | exact ⟨[], (List.append_nil _).symm⟩ | exact ⟨_, rfl⟩), hK _ _ ?_⟩) | (refine ⟨_, _, Or.inl (f1.go _), hK _ _ ?_⟩) | (refine ⟨_, _, Or.inl (f1.go _).weakQ, hK _ _ ?_⟩) | (refine ⟨_, _, Or.inl (f2.go _), (by first | exact ⟨[], (List.append_nil _).symm⟩ | exact ⟨_, rfl⟩), hK _ _ ?_⟩) | (refine ⟨_, _, Or.inl (f2.go _), hK _ _ ?_⟩) | (refine ⟨_, _, Or.inl (f2.go _).weakQ, hK _ _ ?_⟩) | (refine ⟨_, _, Or.inl (np1.go _), (by first | exact ⟨[], (List.append_nil _).symm⟩ | exact ⟨_, rfl⟩), hK _ _ ?_⟩) | (refine ⟨_, _, Or.inl (np1.go _), hK _ _ ?_⟩) | (refine ⟨_, _, Or.inl (np1.go _).weakQ, hK _ _ ?_⟩) | (refine ⟨_, _, Or.inl (np4.go _), (by first | exact ⟨[], (List.append_nil _).symm⟩ | exact ⟨_, rfl⟩), hK _ _ ?_⟩) | (refine ⟨_, _, Or.inl (np4.go _), hK _ _ ?_⟩) | (refine ⟨_, _, Or.inl (np4.go _).weakQ, hK _ _ ?_⟩) | (refine ⟨_, _, Or.inl (sp.go _), (by first | exact ⟨[], (List.append_nil _).symm⟩ | exact ⟨_, rfl⟩), hK _ _ ?_⟩) | (refine ⟨_, _, Or.inl (sp.go _), hK _ _ ?_⟩) | (refine ⟨_, _, Or.inl (sp.go _).weakQ, hK _ _ ?_⟩) | (refine ⟨_, _, Or.inl (tp.go _), (by first | exact ⟨[], (List.append_nil _).symm⟩ | exact ⟨_, rfl⟩), hK _ _ ?_⟩) | (refine ⟨_, _, Or.inl (tp.go _), hK _ _ ?_⟩) | (refine ⟨_, _, Or.inl (tp.go _).weakQ, hK _ _ ?_⟩)); clear hK K)
      | (with_reducible refine lops_nil ?_)
      | (with_reducible first | refine lavc_reg ?_ | refine lavc_seq ?_ | refine lavc_block ?_ | refine lavc_skip ?_ | refine lavc_exit ?_ | refine lavc_ret ?_ | refine lavcR_round ?_)
      | (refine lavc_cond rfl (fun _ => ?_) (fun hc => absurd hc (by decide)))
      | (refine lavc_cond rfl (fun hc => absurd hc (by decide)) (fun _ => ?_))
      | (simp only [↓reduceIte, Nat.reduceEqDiff, reduceCtorEq]))
    refine R1 tt ⟨?_⟩
    exact end0 (NR.t2 _ _) rfl
theorem Read_p (s : ByteArray) (hs : s.size ≤ 1000000) : PCall Tryd.prog glob 45 [.v (.string s)] (.tup [iv (readP s).1, iv (readP s).2]) := by
  by_cases h : Formed s
  · rcases h.2 with g | g
    · exact Read_z s h g.1
    · exact Read_25 s h g.1
  · have e : readP s = (0, 2) := by unfold readP; rw [if_pos h]
    rw [e]
    exact Read_bad s hs h
end Go.Abs.S
namespace Go.Abs.S
attribute [local go_sem] lguard aopO aop aenv toAV tput aLoad aStore vcells aBin aNilI aUn aAlloc aBox aBuild aBSlice afill aConv isIntT aappZ aCap aArr aMM aMake aSlice bnd3 bnd aFldAddr aFld aIdxAddr aIdx aExt aLen aCopy aEq0 bAV aUb aapp aappQ agh acont List.getD_cons_zero List.getD_cons_succ List.set_cons_zero List.set_cons_succ List.getElem?_cons_zero List.getElem?_cons_succ List.length_cons List.length_nil List.map_cons List.map_nil ints_length if_true if_false Bool.false_eq_true true_and and_true eq_self ne_eq not_false_eq_true not_true_eq_false beq_self_eq_true Nat.zero_add Nat.add_zero Nat.mul_one Nat.zero_mul Int.toNat_natCast List.toList_toArray List.all_cons List.all_nil AV.one Value.oneCell' Bool.and_true Bool.true_and forall_const true_implies false_implies implies_true Option.map_some Option.map_none Option.isSome_some Option.isSome_none imp_self rdP_flat rdP_row splice_one ints_set ints_get List.append_nil List.cons_append List.nil_append List.getElem?_toArray List.drop_zero ints_drop ints_take List.take_of_length_le splice_all ints_one Option.some.injEq Option.getD_some List.length_replicate zArr List.map_replicate rep_ints splice_intsR List.length_set List.length_append List.flatten_replicate_singleton rep_slice rep_string rep_bool rep_iface List.replicate_zero if_pos if_neg List.mapM_cons List.mapM_nil Option.pure_def Option.bind_eq_bind Option.bind_some Bool.true_eq_false Bool.not_false Bool.not_true get_concat set_concat
open Go.Proofs
set_option linter.unusedVariables false
set_option linter.unusedSimpArgs false
set_option maxRecDepth 100000
set_option maxHeartbeats 4000000
/-- A page, and what time it is. -/
abbrev claA (N V : AV) (now : Int) : AV := .agg [ivC 6, stA ⟨#[]⟩, N, V, ivC now]
theorem NR.claA {N V : AV} (hN : NR N) (hV : NR V) (now : Int) : NR (claA N V now) := NR.agg (by
  intro x hx
  simp only [List.mem_cons, List.not_mem_nil, or_false] at hx
  rcases hx with rfl | rfl | rfl | rfl | rfl
  · exact NR.v _
  · exact NR.v _
  · exact hN
  · exact hV
  · exact NR.v _)
theorem NR.t2c (a b : Value) : NR (.tup [.v a, .v b]) := NR.tup (by intro c hc; simp at hc; rcases hc with rfl | rfl <;> exact NR.v _)
/-- A row, or none. -/
def Rowy (a : AV) : Prop := a = nlA ∨ ∃ n c k, a = .vsl n c k
theorem text_p (N V : AV) (hN : NR N) (hV : NR V) (now : Int) (name : ByteArray) (k : Int) (s : ByteArray) (a b : AV) (ha : Rowy a) (hb : Rowy b) (t : Bool)
    (hg : PCall Tryd.prog glob 44 [.agg [ivC 6, stA ⟨#[]⟩, N, V], stA name] (.tup [.agg [ivC k, stA s, a, b], .v (.bool t)])) :
    PCall Tryd.prog glob 29 [claA N V now, stA name] (.tup [stA s, .v (.bool (t && decide (k = 4)))]) := by
  refine PCall.of ctx.nr (List.forall_mem_cons.2 ⟨NR.claA hN hV _, List.forall_mem_cons.2 ⟨NR.v _, fun _ h => absurd h List.not_mem_nil⟩⟩) (NR.t2c _ _) ?_
  refine lcall29 (by simp) 0 (Nat.le_refl _) ?_
  unfold lc29
  refine I1 tt ⟨?_⟩
  unfold claA
  obtain ⟨w, hw⟩ : ∃ w, decide (k = 4) = w := ⟨_, rfl⟩
  have q : (k == 4) = w := by rw [← hw]; rfl
  have e5 : List.take 4 [ivC 6, stA ⟨#[]⟩, N, V, ivC now] = [ivC 6, stA ⟨#[]⟩, N, V] := rfl
  rw [hw]
  rcases ha with rfl | ⟨n1, c1, k1, rfl⟩ <;> rcases hb with rfl | ⟨n2, c2, k2, rfl⟩ <;> cases t
  all_goals
    refine G1 F4 (an q (an e5 tt)) (an hg.go tt) tt tt ⟨?_⟩
    refine R1 tt ⟨?_⟩
    exact end0 (NR.t2c _ _) rfl
/-- A rule: what it asks, of which name, what is wanted. -/
abbrev ruleA (r : Int × ByteArray × ByteArray) : List AV := [ivC r.1, stA r.2.1, stA r.2.2]
/-- What a text is wrong by. -/
def wrongP (ask : Int) (want s : ByteArray) (now : Int) : Int :=
  if ask = 1 then (if s = want then 0 else 15)
  else if ask = 2 then 0
  else if (readP s).2 ≠ 0 then 12
  else if ask = 3 ∧ now < (readP s).1 then 13
  else if ask = 4 ∧ (readP s).1 ≤ now then 14
  else 0
theorem wrong_p (ask : Int) (name want s : ByteArray) (now : Int) (hs : ask ≠ 1 → ask ≠ 2 → s.size ≤ 1000000) : PCall Tryd.prog glob 30 [.agg [ivC ask, stA name, stA want], stA s, ivC now] (ivC (wrongP ask want s now)) := by
  refine PCall.of ctx.nr (List.forall_mem_cons.2 ⟨NR.agg (by intro c hc; simp at hc; rcases hc with rfl | rfl | rfl <;> exact NR.v _), List.forall_mem_cons.2 ⟨NR.v _, List.forall_mem_cons.2 ⟨NR.v _, fun _ h => absurd h List.not_mem_nil⟩⟩⟩) (NR.v _) ?_
  refine lcall30 (by simp) 0 (Nat.le_refl _) ?_
  unfold lc30
  refine I1 tt ⟨?_⟩
  unfold wrongP
  by_cases h1 : ask = 1
  · subst h1
    rw [if_pos rfl]
    by_cases hx : s = want
    · rw [if_pos hx]
      have q : (s.toList == want.toList) = true := by rw [stA_beq]; exact decide_eq_true hx
      refine G1 F4 (an q tt) tt tt tt ⟨?_⟩
      refine R1 tt ⟨?_⟩
      exact end0 (NR.v _) rfl
    · rw [if_neg hx]
      have q : (s.toList == want.toList) = false := by rw [stA_beq]; exact decide_eq_false hx
      refine G1 F4 (an q tt) tt tt tt ⟨?_⟩
      refine R1 tt ⟨?_⟩
      exact end0 (NR.v _) rfl
  rw [if_neg h1]
  have q1 : ((ask : Int) == 1) = false := by rw [beq_eq_false_iff_ne, ne_eq]; omega
  by_cases h2 : ask = 2
  · subst h2
    rw [if_pos rfl]
    refine G1 F4 tt tt tt tt ⟨?_⟩
    refine R1 tt ⟨?_⟩
    exact end0 (NR.v _) rfl
  rw [if_neg h2]
  have q2 : ((ask : Int) == 2) = false := by rw [beq_eq_false_iff_ne, ne_eq]; omega
  have rp := Read_p s (hs h1 h2)
  obtain ⟨⟨n, e⟩, hr⟩ : ∃ x, readP s = x := ⟨_, rfl⟩
  rw [hr] at rp ⊢
  by_cases he : e = 0
  · subst he
    simp only [ne_eq, not_true_eq_false, if_false]
    by_cases h3 : ask = 3
    · subst h3
      by_cases hn : now < n
      · rw [if_pos ⟨rfl, hn⟩]
        have d : decide (n > now) = true := by rw [decide_eq_true_eq]; omega
        refine G1 F4 (an d tt) (an rp.go tt) tt tt ⟨?_⟩
        refine R1 tt ⟨?_⟩
        exact end0 (NR.v _) rfl
      · rw [if_neg (fun h => hn h.2), if_neg (fun h => absurd h.1 (by decide))]
        have d : decide (n > now) = false := by rw [decide_eq_false_iff_not]; omega
        refine G1 F4 (an d tt) (an rp.go tt) tt tt ⟨?_⟩
        refine R1 tt ⟨?_⟩
        exact end0 (NR.v _) rfl
    have q3 : ((ask : Int) == 3) = false := by rw [beq_eq_false_iff_ne, ne_eq]; omega
    rw [if_neg (fun h => h3 h.1)]
    by_cases h4 : ask = 4
    · subst h4
      by_cases hn : n ≤ now
      · rw [if_pos ⟨rfl, hn⟩]
        have d : decide (n ≤ now) = true := by rw [decide_eq_true_eq]; omega
        refine G1 F4 (an d tt) (an rp.go tt) tt tt ⟨?_⟩
        refine R1 tt ⟨?_⟩
        exact end0 (NR.v _) rfl
      · rw [if_neg (fun h => hn h.2)]
        have d : decide (n ≤ now) = false := by rw [decide_eq_false_iff_not]; omega
        refine G1 F4 (an d tt) (an rp.go tt) tt tt ⟨?_⟩
        refine R1 tt ⟨?_⟩
        exact end0 (NR.v _) rfl
    · rw [if_neg (fun h => h4 h.1)]
      have q4 : ((ask : Int) == 4) = false := by rw [beq_eq_false_iff_ne, ne_eq]; omega
      refine G1 F4 (an q1 (an q2 (an q3 (an q4 tt)))) (an rp.go tt) tt tt ⟨?_⟩
      refine R1 tt ⟨?_⟩
      exact end0 (NR.v _) rfl
  · rw [if_pos he]
    have d : ((e : Int) != 0) = true := by rw [bne_iff_ne, ne_eq]; omega
    refine G1 F4 (an q1 (an q2 (an d tt))) (an rp.go tt) tt tt ⟨?_⟩
    refine R1 tt ⟨?_⟩
    exact end0 (NR.v _) rfl
/-- A rule's error, of a name's text. -/
def checkP (tx : ByteArray → ByteArray × Bool) (now : Int) (r : Int × ByteArray × ByteArray) : Int :=
  if r.1 < 1 ∨ 4 < r.1 then 2 else if (tx r.2.1).2 = true then wrongP r.1 r.2.2 (tx r.2.1).1 now else 15
theorem check_p (N V : AV) (hN : NR N) (hV : NR V) (now : Int) (tx : ByteArray → ByteArray × Bool) 
    (hx : ∀ name, PCall Tryd.prog glob 29 [claA N V now, stA name] (.tup [stA (tx name).1, .v (.bool (tx name).2)])) (r : Int × ByteArray × ByteArray) (ht : r.1 ≠ 1 → r.1 ≠ 2 → (tx r.2.1).1.size ≤ 1000000) :
    PCall Tryd.prog glob 17 [claA N V now, .agg (ruleA r)] (ivC (checkP tx now r)) := by
  obtain ⟨ask, name, want⟩ := r
  refine PCall.of ctx.nr (List.forall_mem_cons.2 ⟨NR.claA hN hV _, List.forall_mem_cons.2 ⟨NR.agg (by intro c hc; simp at hc; rcases hc with rfl | rfl | rfl <;> exact NR.v _), fun _ h => absurd h List.not_mem_nil⟩⟩) (NR.v _) ?_
  refine lcall17 (by simp) 0 (Nat.le_refl _) ?_
  unfold lc17
  refine I1 tt ⟨?_⟩
  have hx := hx name
  have hz : ask ≠ 1 → ask ≠ 2 → (tx name).1.size ≤ 1000000 := ht
  unfold claA ruleA checkP
  unfold claA at hx
  obtain ⟨⟨s, t⟩, hs⟩ : ∃ x, tx name = x := ⟨_, rfl⟩
  simp only [hs] at hx hz ⊢
  have wp := wrong_p ask name want s now hz
  obtain ⟨w, hw⟩ : ∃ w, wrongP ask want s now = w := ⟨_, rfl⟩
  rw [hw] at wp ⊢
  by_cases h1 : ask < 1
  · rw [if_pos (.inl h1)]
    have d : decide (ask < 1) = true := by rw [decide_eq_true_eq]; omega
    refine G1 F4 (an d tt) tt tt tt ⟨?_⟩
    refine R1 tt ⟨?_⟩
    exact end0 (NR.v _) rfl
  have d : decide (ask < 1) = false := by rw [decide_eq_false_iff_not]; omega
  by_cases h4 : 4 < ask
  · rw [if_pos (.inr h4)]
    have d4 : decide (ask > 4) = true := by rw [decide_eq_true_eq]; omega
    refine G1 F4 (an d (an d4 tt)) tt tt tt ⟨?_⟩
    refine R1 tt ⟨?_⟩
    exact end0 (NR.v _) rfl
  have d4 : decide (ask > 4) = false := by rw [decide_eq_false_iff_not]; omega
  rw [if_neg (by omega)]
  cases t with
  | true =>
    rw [if_pos rfl]
    refine G1 F4 (an d (an d4 tt)) (an hx.go (an wp.go tt)) tt tt ⟨?_⟩
    refine R1 tt ⟨?_⟩
    exact end0 (NR.v _) rfl
  | false =>
    rw [if_neg (by decide)]
    refine G1 F4 (an d (an d4 tt)) (an hx.go tt) tt tt ⟨?_⟩
    refine R1 tt ⟨?_⟩
    exact end0 (NR.v _) rfl
end Go.Abs.S
namespace Go.Abs.S
attribute [local go_sem] lguard aopO aop aenv toAV tput aLoad aStore vcells aBin aNilI aUn aAlloc aBox aBuild aBSlice afill aConv isIntT aappZ aCap aArr aMM aMake aSlice bnd3 bnd aFldAddr aFld aIdxAddr aIdx aExt aLen aCopy aEq0 bAV aUb aapp aappQ agh acont List.getD_cons_zero List.getD_cons_succ List.set_cons_zero List.set_cons_succ List.getElem?_cons_zero List.getElem?_cons_succ List.length_cons List.length_nil List.map_cons List.map_nil ints_length if_true if_false Bool.false_eq_true true_and and_true eq_self ne_eq not_false_eq_true not_true_eq_false beq_self_eq_true Nat.zero_add Nat.add_zero Nat.mul_one Nat.zero_mul Int.toNat_natCast List.toList_toArray List.all_cons List.all_nil AV.one Value.oneCell' Bool.and_true Bool.true_and forall_const true_implies false_implies implies_true Option.map_some Option.map_none Option.isSome_some Option.isSome_none imp_self rdP_flat rdP_row splice_one ints_set ints_get List.append_nil List.cons_append List.nil_append List.getElem?_toArray List.drop_zero ints_drop ints_take List.take_of_length_le splice_all ints_one Option.some.injEq Option.getD_some List.length_replicate zArr List.map_replicate rep_ints splice_intsR List.length_set List.length_append List.flatten_replicate_singleton rep_slice rep_string rep_bool rep_iface List.replicate_zero if_pos if_neg List.mapM_cons List.mapM_nil Option.pure_def Option.bind_eq_bind Option.bind_some Bool.true_eq_false Bool.not_false Bool.not_true get_concat set_concat
open Go.Proofs
set_option linter.unusedVariables false
set_option linter.unusedSimpArgs false
set_option maxRecDepth 100000
set_option maxHeartbeats 4000000
abbrev Rule3 : Type := Int × ByteArray × ByteArray
def rulesA (l : List Rule3) : List AV := l.flatMap ruleA
theorem rulesA_length (l : List Rule3) : (rulesA l).length = l.length * 3 := by
  induction l with
  | nil => rfl
  | cons a l ih =>
    have : rulesA (a :: l) = ruleA a ++ rulesA l := rfl
    rw [this, List.length_append, ih]
    simp [ruleA]
    omega
theorem rulesA_at (l : List Rule3) (k : Nat) (h : k < l.length) : ((rulesA l).drop (k * 3)).take 3 = ruleA (l.getD k (0, ⟨#[]⟩, ⟨#[]⟩)) := by
  induction l generalizing k with
  | nil => exact absurd h (Nat.not_lt_zero _)
  | cons a l ih =>
    have e : rulesA (a :: l) = ruleA a ++ rulesA l := rfl
    rw [e]
    cases k with
    | zero => simp [ruleA]
    | succ k =>
      rw [show (k + 1) * 3 = k * 3 + 1 + 1 + 1 from by omega]
      have := ih k (by simpa using h)
      simp only [ruleA, List.cons_append, List.nil_append, List.drop_succ_cons] at this ⊢
      simpa using this
theorem NR.rulesA (l : List Rule3) : ∀ x ∈ rulesA l, NR x := by
  intro x hx
  simp only [Go.Abs.S.rulesA, List.mem_flatMap] at hx
  obtain ⟨r, _, hr⟩ := hx
  simp only [List.mem_cons, List.not_mem_nil, or_false] at hr
  rcases hr with rfl | rfl | rfl <;> exact NR.v _
/-- The first rule's error. -/
def chkAll (tx : ByteArray → ByteArray × Bool) (now : Int) : List Rule3 → Int
  | [] => 0
  | r :: l => if checkP tx now r = 0 then chkAll tx now l else checkP tx now r
theorem chkAll_step (tx : ByteArray → ByteArray × Bool) (now : Int) (l : List Rule3) (k : Nat) (h : k < l.length) : chkAll tx now (l.drop k) = if checkP tx now (l.getD k (0, ⟨#[]⟩, ⟨#[]⟩)) = 0 then chkAll tx now (l.drop (k + 1)) else checkP tx now (l.getD k (0, ⟨#[]⟩, ⟨#[]⟩)) := by
  rw [List.drop_eq_getElem_cons h, chkAll, List.getD_eq_getElem?_getD, List.getElem?_eq_getElem h]
  rfl
theorem NR.val4 (k : Int) (t : ByteArray) {N V : AV} (hN : NR N) (hV : NR V) : NR (.agg [ivC k, stA t, N, V]) := NR.agg (by
  intro x hx
  simp only [List.mem_cons, List.not_mem_nil, or_false] at hx
  rcases hx with rfl | rfl | rfl | rfl
  · exact NR.v _
  · exact NR.v _
  · exact hN
  · exact hV)
theorem Check_bad (k : Int) (t : ByteArray) (n1 : Nat) (c1 : List AV) (hc1 : ∀ x ∈ c1, NR x) (n2 : Nat) (c2 : List AV) (hc2 : ∀ x ∈ c2, NR x) (now : Int) (g : Int)
    (hg : PCall Tryd.prog glob 11 [.agg [ivC k, stA t, .vsl n1 c1 none, .vsl n2 c2 none]] (ivC g))
    (hb : k ≠ 6 ∨ g ≠ 0) (l : List Rule3) (c : Option Nat) :
    PCall Tryd.prog glob 8 [.agg [ivC k, stA t, .vsl n1 c1 none, .vsl n2 c2 none], ivC now, .vsl l.length (rulesA l) c] (ivC 2) := by
  refine PCall.of ctx.nr (List.forall_mem_cons.2 ⟨NR.val4 _ _ (NR.vsl hc1) (NR.vsl hc2), List.forall_mem_cons.2 ⟨NR.v _, List.forall_mem_cons.2 ⟨NR.vsl (NR.rulesA _), fun _ h => absurd h List.not_mem_nil⟩⟩⟩) (NR.v _) ?_
  refine lcall8 (by simp) 0 (Nat.le_refl _) ?_
  unfold lc8
  refine I1 tt ⟨?_⟩
  by_cases h6 : k = 6
  · subst h6
    have h0 : g ≠ 0 := hb.resolve_left (fun h => h rfl)
    have d : ((g : Int) != 0) = true := by rw [bne_iff_ne, ne_eq]; omega
    repeat (first
      | (with_reducible refine lops_step fun K hK => ?_; simp (disch := first | exact dch | fail) only [go_sem, Nat.reduceAdd, Nat.reduceSub, reduceIte, Nat.reduceEqDiff, Int.reduceToNat, Int.reduceBEq, Int.reduceBNe, d, splice, List.take_succ_cons, List.take_zero, List.drop_succ_cons, List.drop_zero, List.drop_nil, List.cons_append, List.nil_append, List.append_nil, List.length_cons, List.length_nil, List.replicate_succ, List.replicate_zero, List.flatten_cons, List.flatten_nil, Nat.reduceMul, Nat.reduceAdd, Nat.reduceLeDiff]; (try (first | (refine And.intro (fun _ => ?_) (fun h => absurd h (by decide))) | (refine And.intro (fun h => absurd h (by decide)) (fun _ => ?_)))); (repeat (with_reducible refine And.intro acl ?_)); (first | (refine hK _ _ ?_) | (refine ⟨_, rfl, hK _ _ ?_⟩) | (refine Or.inl (hK _ _ ?_)) | (refine ⟨_, _, Or.inl (hg.go _), (by first | exact ⟨[], (List.append_nil _).symm⟩ | exact ⟨_, rfl⟩), hK _ _ ?_⟩) | (refine ⟨_, _, Or.inl (hg.go _), hK _ _ ?_⟩) | (refine ⟨_, _, Or.inl (hg.go _).weakQ, hK _ _ ?_⟩)); clear hK K)
      | (with_reducible refine lops_nil ?_)
      | (with_reducible first | refine lavc_reg ?_ | refine lavc_seq ?_ | refine lavc_block ?_ | refine lavc_skip ?_ | refine lavc_exit ?_ | refine lavc_ret ?_ | refine lavcR_round ?_)
      | (refine lavc_cond rfl (fun _ => ?_) (fun hc => absurd hc (by decide)))
      | (refine lavc_cond rfl (fun hc => absurd hc (by decide)) (fun _ => ?_))
      | (simp only [↓reduceIte, Nat.reduceEqDiff, reduceCtorEq]))
    refine R1 tt ⟨?_⟩
    exact end0 (NR.v _) rfl
  · have d : ((k : Int) != 6) = true := by rw [bne_iff_ne, ne_eq]; omega
    repeat (first
      | (with_reducible refine lops_step fun K hK => ?_; simp (disch := first | exact dch | fail) only [go_sem, Nat.reduceAdd, Nat.reduceSub, reduceIte, Nat.reduceEqDiff, Int.reduceToNat, Int.reduceBEq, Int.reduceBNe, d, splice, List.take_succ_cons, List.take_zero, List.drop_succ_cons, List.drop_zero, List.drop_nil, List.cons_append, List.nil_append, List.append_nil, List.length_cons, List.length_nil, List.replicate_succ, List.replicate_zero, List.flatten_cons, List.flatten_nil, Nat.reduceMul, Nat.reduceAdd, Nat.reduceLeDiff]; (try (first | (refine And.intro (fun _ => ?_) (fun h => absurd h (by decide))) | (refine And.intro (fun h => absurd h (by decide)) (fun _ => ?_)))); (repeat (with_reducible refine And.intro acl ?_)); (first | (refine hK _ _ ?_) | (refine ⟨_, rfl, hK _ _ ?_⟩) | (refine Or.inl (hK _ _ ?_))); clear hK K)
      | (with_reducible refine lops_nil ?_)
      | (with_reducible first | refine lavc_reg ?_ | refine lavc_seq ?_ | refine lavc_block ?_ | refine lavc_skip ?_ | refine lavc_exit ?_ | refine lavc_ret ?_ | refine lavcR_round ?_)
      | (refine lavc_cond rfl (fun _ => ?_) (fun hc => absurd hc (by decide)))
      | (refine lavc_cond rfl (fun hc => absurd hc (by decide)) (fun _ => ?_))
      | (simp only [↓reduceIte, Nat.reduceEqDiff, reduceCtorEq]))
    refine R1 tt ⟨?_⟩
    exact end0 (NR.v _) rfl
theorem Check_p (n1 : Nat) (c1 : List AV) (hc1 : ∀ x ∈ c1, NR x) (n2 : Nat) (c2 : List AV) (hc2 : ∀ x ∈ c2, NR x) (now : Int)
    (hg : PCall Tryd.prog glob 11 [.agg [ivC 6, stA ⟨#[]⟩, .vsl n1 c1 none, .vsl n2 c2 none]] (ivC 0))
    (tx : ByteArray → ByteArray × Bool)
    (hx : ∀ name, PCall Tryd.prog glob 29 [claA (.vsl n1 c1 none) (.vsl n2 c2 none) now, stA name] (.tup [stA (tx name).1, .v (.bool (tx name).2)]))
    (l : List Rule3) (hl : l.length ≤ 1000) (hr : ∀ r ∈ l, r.1 ≠ 1 → r.1 ≠ 2 → (tx r.2.1).1.size ≤ 1000000) (c : Option Nat) :
    PCall Tryd.prog glob 8 [.agg [ivC 6, stA ⟨#[]⟩, .vsl n1 c1 none, .vsl n2 c2 none], ivC now, .vsl l.length (rulesA l) c] (ivC (chkAll tx now l)) := by
  refine PCall.of ctx.nr (List.forall_mem_cons.2 ⟨NR.val4 _ _ (NR.vsl hc1) (NR.vsl hc2), List.forall_mem_cons.2 ⟨NR.v _, List.forall_mem_cons.2 ⟨NR.vsl (NR.rulesA _), fun _ h => absurd h List.not_mem_nil⟩⟩⟩) (NR.v _) ?_
  refine lcall8 (by simp) 0 (Nat.le_refl _) ?_
  unfold lc8
  refine I1 tt ⟨?_⟩
  have hlx := rulesA_length l
  have cp := fun r => check_p (.vsl n1 c1 none) (.vsl n2 c2 none) (NR.vsl hc1) (NR.vsl hc2) now tx hx r
  unfold claA ruleA at cp
  obtain ⟨V, hV⟩ : ∃ V, chkAll tx now l = V := ⟨_, rfl⟩
  rw [hV]
  repeat (first
    | (with_reducible refine lops_step fun K hK => ?_; simp (disch := first | exact dch | fail) only [go_sem, Nat.reduceAdd, Nat.reduceSub, reduceIte, Nat.reduceEqDiff, Int.reduceToNat, Int.reduceBEq, Int.reduceBNe, splice, List.take_succ_cons, List.take_zero, List.drop_succ_cons, List.drop_zero, List.drop_nil, List.cons_append, List.nil_append, List.append_nil, List.length_cons, List.length_nil, List.replicate_succ, List.replicate_zero, List.flatten_cons, List.flatten_nil, Nat.reduceMul, Nat.reduceAdd, Nat.reduceLeDiff]; (try (first | (refine And.intro (fun _ => ?_) (fun h => absurd h (by decide))) | (refine And.intro (fun h => absurd h (by decide)) (fun _ => ?_)))); (repeat (with_reducible refine And.intro acl ?_)); (first | (refine hK _ _ ?_) | (refine ⟨_, rfl, hK _ _ ?_⟩) | (refine Or.inl (hK _ _ ?_)) | (refine ⟨_, _, Or.inl (hg.go _), (by first | exact ⟨[], (List.append_nil _).symm⟩ | exact ⟨_, rfl⟩), hK _ _ ?_⟩) | (refine ⟨_, _, Or.inl (hg.go _), hK _ _ ?_⟩) | (refine ⟨_, _, Or.inl (hg.go _).weakQ, hK _ _ ?_⟩)); clear hK K)
    | (with_reducible refine lops_nil ?_)
    | (with_reducible first | refine lavc_reg ?_ | refine lavc_seq ?_ | refine lavc_block ?_ | refine lavc_skip ?_ | refine lavc_exit ?_ | refine lavc_ret ?_ | refine lavcR_round ?_)
    | (refine lavc_cond rfl (fun _ => ?_) (fun hc => absurd hc (by decide)))
    | (refine lavc_cond rfl (fun hc => absurd hc (by decide)) (fun _ => ?_))
    | (simp only [↓reduceIte, Nat.reduceEqDiff, reduceCtorEq]))
  refine lavc_loopM ms8_0 (fun m (x : Nat × AHeap) => m + x.1 = l.length ∧ chkAll tx now (l.drop x.1) = V) (fun x => [(25, ivC x.1)]) (fun x => [Blk.mk [ivC 6, stA ⟨#[]⟩, .vsl n1 c1 none, .vsl n2 c2 none] 0 true 26, Blk.mk [ivC 6, stA ⟨#[]⟩, .vsl n1 c1 none, .vsl n2 c2 none, ivC now] 0 true 52] ++ x.2) l.length (0, []) ⟨by omega, by rw [List.drop_zero]; exact hV⟩ ?_ ?_ ?_
  · try unfold ms8_0
    refine A1 tt ⟨?_⟩
    rfl
  · rfl
  rintro m ⟨k, gg⟩ ⟨hk, hi⟩
  simp only at hk hi ⊢
  try unfold ms8_0
  refine M1 tt ⟨?_⟩
  refine G1 F1 tt tt tt tt ⟨?_⟩
  refine cnd rfl (fun hc => ?_) (fun hc => ?_)
  · have hkl : k < l.length := by omega
    have hat := rulesA_at l k hkl
    rw [chkAll_step tx now l k hkl] at hi
    obtain ⟨⟨ask, name, want⟩, hy⟩ : ∃ y, l.getD k (0, ⟨#[]⟩, ⟨#[]⟩) = y := ⟨_, rfl⟩
    rw [hy] at hat hi
    unfold ruleA at hat
    have hyl : (ask, name, want) ∈ l := by
      rw [← hy, List.getD_eq_getElem?_getD, List.getElem?_eq_getElem hkl]
      exact List.getElem_mem hkl
    have cp := cp (ask, name, want) (hr _ hyl)
    have e3 := i64n ((k : Int) + 1) (k + 1) (by omega) (by omega)
    obtain ⟨w, hw⟩ : ∃ w, checkP tx now (ask, name, want) = w := ⟨_, rfl⟩
    rw [hw] at cp hi
    by_cases h0 : w = 0
    · subst h0
      rw [if_pos rfl] at hi
      refine G1 F4 (an hat (an hlx (an e3 tt))) (an cp.go tt) tt tt ⟨?_⟩
      refine ⟨m - 1, (k + 1, gg ++ [⟨[ivC ask, stA name, stA want], 0, true, 40⟩]), by omega, ⟨by show m - 1 + (k + 1) = l.length; omega, hi⟩, ?_, (by first | rfl | trivial)⟩
      try unfold ms8_0
      exact A0 tt
    · rw [if_neg h0] at hi
      have d : ((w : Int) != 0) = true := by rw [bne_iff_ne, ne_eq]; omega
      refine G1 F4 (an hat (an hlx (an d (an e3 tt)))) (an cp.go tt) tt tt ⟨?_⟩
      refine R1 tt ⟨?_⟩
      exact end0 (NR.v _) (by rw [← hi])
  · have hk2 : k = l.length := by omega
    rw [hk2, List.drop_length] at hi
    refine G1 F4 tt tt tt tt ⟨?_⟩
    refine R1 tt ⟨?_⟩
    exact end0 (NR.v _) (by rw [← hi]; rfl)
abbrev issB : ByteArray := ⟨#[105, 115, 115]⟩
abbrev audB : ByteArray := ⟨#[97, 117, 100]⟩
abbrev nbfB : ByteArray := ⟨#[110, 98, 102]⟩
abbrev expB : ByteArray := ⟨#[101, 120, 112]⟩
def usualP (i a : ByteArray) : List Rule3 := [(1, issB, i), (1, audB, a), (3, nbfB, ⟨#[]⟩), (4, expB, ⟨#[]⟩)]
theorem Usual_p (i a : ByteArray) : PCall Tryd.prog glob 16 [stA i, stA a] (.vsl 4 (rulesA (usualP i a)) (some 4)) := by
  refine PCall.of ctx.nr (List.forall_mem_cons.2 ⟨NR.v _, List.forall_mem_cons.2 ⟨NR.v _, fun _ h => absurd h List.not_mem_nil⟩⟩) (NR.vsl (NR.rulesA _)) ?_
  refine lcall16 (by simp) 0 (Nat.le_refl _) ?_
  have hnr := NR.rulesA (usualP i a)
  unfold rulesA usualP ruleA at hnr ⊢
  simp only [List.flatMap_cons, List.flatMap_nil, List.cons_append, List.nil_append] at hnr ⊢
  unfold lc16
  refine I1 tt ⟨?_⟩
  repeat (first
    | (with_reducible refine lops_step fun K hK => ?_; simp (disch := first | exact dch | fail) only [go_sem, Nat.reduceAdd, Nat.reduceSub, reduceIte, Nat.reduceEqDiff, Int.reduceToNat, Int.reduceBEq, Int.reduceBNe, splice, List.take_succ_cons, List.take_zero, List.drop_succ_cons, List.drop_zero, List.drop_nil, List.cons_append, List.nil_append, List.append_nil, List.length_cons, List.length_nil, List.replicate_succ, List.replicate_zero, List.flatten_cons, List.flatten_nil, Nat.reduceMul, Nat.reduceAdd, Nat.reduceLeDiff]; (try (first | (refine And.intro (fun _ => ?_) (fun h => absurd h (by decide))) | (refine And.intro (fun h => absurd h (by decide)) (fun _ => ?_)))); (repeat (with_reducible refine And.intro acl ?_)); (first | (refine hK _ _ ?_) | (refine ⟨_, rfl, hK _ _ ?_⟩) | (refine Or.inl (hK _ _ ?_))); clear hK K)
    | (with_reducible refine lops_nil ?_)
    | (with_reducible first | refine lavc_reg ?_ | refine lavc_seq ?_ | refine lavc_block ?_ | refine lavc_skip ?_ | refine lavc_exit ?_ | refine lavc_ret ?_ | refine lavcR_round ?_)
    | (refine lavc_cond rfl (fun _ => ?_) (fun hc => absurd hc (by decide)))
    | (refine lavc_cond rfl (fun hc => absurd hc (by decide)) (fun _ => ?_))
    | (simp only [↓reduceIte, Nat.reduceEqDiff, reduceCtorEq]))
  refine R1 tt ⟨?_⟩
  exact end0 (NR.vsl hnr) rfl
end Go.Abs.S
namespace Go.Abs.S
attribute [local go_sem] lguard aopO aop aenv toAV tput aLoad aStore vcells aBin aNilI aUn aAlloc aBox aBuild aBSlice afill aConv isIntT aappZ aCap aArr aMM aMake aSlice bnd3 bnd aFldAddr aFld aIdxAddr aIdx aExt aLen aCopy aEq0 bAV aUb aapp aappQ agh acont List.getD_cons_zero List.getD_cons_succ List.set_cons_zero List.set_cons_succ List.getElem?_cons_zero List.getElem?_cons_succ List.length_cons List.length_nil List.map_cons List.map_nil ints_length if_true if_false Bool.false_eq_true true_and and_true eq_self ne_eq not_false_eq_true not_true_eq_false beq_self_eq_true Nat.zero_add Nat.add_zero Nat.mul_one Nat.zero_mul Int.toNat_natCast List.toList_toArray List.all_cons List.all_nil AV.one Value.oneCell' Bool.and_true Bool.true_and forall_const true_implies false_implies implies_true Option.map_some Option.map_none Option.isSome_some Option.isSome_none imp_self rdP_flat rdP_row splice_one ints_set ints_get List.append_nil List.cons_append List.nil_append List.getElem?_toArray List.drop_zero ints_drop ints_take List.take_of_length_le splice_all ints_one Option.some.injEq Option.getD_some List.length_replicate zArr List.map_replicate rep_ints splice_intsR List.length_set List.length_append List.flatten_replicate_singleton rep_slice rep_string rep_bool rep_iface List.replicate_zero if_pos if_neg List.mapM_cons List.mapM_nil Option.pure_def Option.bind_eq_bind Option.bind_some Bool.true_eq_false Bool.not_false Bool.not_true get_concat set_concat
open Go.Proofs
set_option linter.unusedVariables false
set_option linter.unusedSimpArgs false
set_option maxRecDepth 100000
theorem strs_append (a b : List ByteArray) : strs a ++ strs b = strs (a ++ b) := by simp [strs]
theorem strs_one (a : List ByteArray) : (strs a).all AV.one = true := by
  rw [List.all_eq_true]
  intro x hx
  simp only [strs, List.mem_map] at hx
  obtain ⟨y, _, rfl⟩ := hx
  rfl
theorem strs_take (a : List ByteArray) (k : Nat) : (strs a).take k = strs (a.take k) := by simp [strs, List.map_take]
theorem growS (n : Nat) (h0 : 0 < n) (h1 : n ≤ 1000000) : NCall Tryd.prog glob 41 [.v (.slice none 0 0), .v (.int .i64 n)] 9 0 n 1 false (strs (List.replicate n ⟨#[]⟩)) := by
  refine NCall.of (v := 0) ctx.nr nrs (NR.strs _) ?_
  refine lcall41 (by simp) 1 (Nat.zero_le _) ?_
  unfold lc41
  refine I1 tt ⟨?_⟩
  have e2 := i64z (0 : Int) (by omega)
  have e3 := i64z (n : Int) (by omega)
  have e4 : (List.replicate n [stA ⟨#[]⟩]).flatten = strs (List.replicate n ⟨#[]⟩) := by simp [strs]
  repeat (first
    | (with_reducible refine lops_step fun K hK => ?_; simp (disch := first | exact dch | fail) only [go_sem, Nat.reduceAdd, Nat.reduceSub, reduceIte, Nat.reduceEqDiff, Int.reduceToNat, Int.reduceBEq, Int.reduceBNe, Int.sub_self, Int.sub_zero, e2, e3]; (repeat (with_reducible refine And.intro acl ?_)); (first | (refine hK _ _ ?_) | (refine ⟨_, rfl, hK _ _ ?_⟩) | (refine Or.inl (hK _ _ ?_))); clear hK K)
    | (with_reducible refine lops_nil ?_)
    | (with_reducible first | refine lavc_reg ?_ | refine lavc_seq ?_ | refine lavc_block ?_ | refine lavc_skip ?_ | refine lavc_exit ?_ | refine lavc_ret ?_ | refine lavcR_round ?_)
    | (simp only [↓reduceIte, Nat.reduceEqDiff, reduceCtorEq]))
  refine cnd rfl (fun hc => ?_) (fun hc => ?_)
  · exact absurd hc (by omega)
  · repeat (first
      | (with_reducible refine lops_step fun K hK => ?_; simp (disch := first | exact dch | fail) only [go_sem, Nat.reduceAdd, Nat.reduceSub, reduceIte, Nat.reduceEqDiff, Int.reduceToNat, Int.reduceBEq, Int.reduceBNe, Int.sub_self, Int.sub_zero, e2, e3]; (repeat (with_reducible refine And.intro acl ?_)); (first | (refine hK _ _ ?_) | (refine ⟨_, rfl, hK _ _ ?_⟩) | (refine Or.inl (hK _ _ ?_))); clear hK K)
      | (with_reducible refine lops_nil ?_)
      | (with_reducible first | refine lavc_reg ?_ | refine lavc_seq ?_ | refine lavc_block ?_ | refine lavc_skip ?_ | refine lavc_exit ?_ | refine lavc_ret ?_ | refine lavcR_round ?_)
      | (simp only [↓reduceIte, Nat.reduceEqDiff, reduceCtorEq]))
    refine cnd rfl (fun hc => ?_) (fun hc => ?_)
    · repeat (first
        | (with_reducible refine lops_step fun K hK => ?_; simp (disch := first | exact dch | fail) only [go_sem, Nat.reduceAdd, Nat.reduceSub, reduceIte, Nat.reduceEqDiff, Int.reduceToNat, Int.reduceBEq, Int.reduceBNe, e4, Value.cells, List.map_cons, List.map_nil, Int.ofNat_le]; (repeat (with_reducible refine And.intro acl ?_)); (first | (refine hK _ _ ?_) | (refine ⟨_, rfl, hK _ _ ?_⟩) | (refine Or.inl (hK _ _ ?_))); clear hK K)
        | (with_reducible refine lops_nil ?_)
        | (with_reducible first | refine lavc_reg ?_ | refine lavc_seq ?_ | refine lavc_block ?_ | refine lavc_skip ?_ | refine lavc_exit ?_ | refine lavc_ret ?_ | refine lavcR_round ?_)
        | (simp only [↓reduceIte, Nat.reduceEqDiff, reduceCtorEq]))
      refine R1 tt ⟨?_⟩
      exact endN (NR.strs _) rfl
    · exact absurd hc (by omega)
/-- The first k rows, one behind the other. -/
def catS (rs : List (List ByteArray)) (k : Nat) : List ByteArray := (rs.take k).flatten
theorem catS_step (rs : List (List ByteArray)) (k : Nat) (h : k < rs.length) : catS rs (k + 1) = catS rs k ++ rs.getD k [] := by
  unfold catS
  rw [List.take_succ_eq_append_getElem h, List.flatten_append, List.getD_eq_getElem?_getD, List.getElem?_eq_getElem h]
  simp
theorem catS_all (rs : List (List ByteArray)) : catS rs rs.length = rs.flatten := by simp [catS]
theorem catS_le (rs : List (List ByteArray)) (k : Nat) : (catS rs k).length ≤ rs.flatten.length := by
  unfold catS
  conv => rhs; rw [← List.take_append_drop k rs, List.flatten_append, List.length_append]
  omega
/-- Rows, each with what it holds. -/
def RwsS (xs : List AV) (rs : List (List ByteArray)) : Prop := xs.length = rs.length ∧ ∀ k, k < rs.length → ∃ cx, xs.getD k .any = .vsl (rs.getD k []).length (strs (rs.getD k [])) cx
theorem RwsS.nr {xs : List AV} {rs : List (List ByteArray)} (h : RwsS xs rs) : ∀ x ∈ xs, NR x := by
  intro x hx
  obtain ⟨j, hj, rfl⟩ := List.mem_iff_getElem.1 hx
  obtain ⟨cx, e⟩ := h.2 j (by have := h.1; omega)
  rw [List.getD_eq_getElem?_getD, List.getElem?_eq_getElem hj] at e
  rw [show xs[j] = _ from e]
  exact NR.vsl (NR.strs _)
theorem RwsS.nil : RwsS [] [] := ⟨rfl, fun k hk => absurd hk (Nat.not_lt_zero _)⟩
theorem RwsS.cons {xs : List AV} {rs : List (List ByteArray)} {r : List ByteArray} {n : Nat} {cx : Option Nat} (hn : r.length = n) (h : RwsS xs rs) : RwsS (.vsl n (strs r) cx :: xs) (r :: rs) := by
  subst hn
  refine ⟨by simp [h.1], fun k hk => ?_⟩
  cases k with
  | zero => exact ⟨cx, rfl⟩
  | succ k => exact h.2 k (by simpa using hk)
theorem concatS_n (xs : List AV) (cx : Option Nat) (rs : List (List ByteArray)) (hr : RwsS xs rs) (T : List ByteArray) (hT : rs.flatten = T) (h0 : 0 < T.length) (h1 : T.length ≤ 1000000) (h2 : rs.length ≤ 1000000) :
    NCall Tryd.prog glob 25 [.vsl rs.length xs cx] 9 T.length T.length 1 false (strs T) := by
  subst hT
  refine NCall.of (v := rs.length) ctx.nr (by intro a ha; rw [List.mem_singleton] at ha; subst ha; exact NR.vsl hr.nr) (NR.strs _) ?_
  refine lcall25 (by simp) 1 (Nat.zero_le _) ?_
  unfold lc25
  refine I1 tt ⟨?_⟩
  have hxl := hr.1
  refine G1 F1 tt tt tt tt ⟨?_⟩
  refine lavc_loopM ms25_0 (fun n (k : Nat) => n + k = rs.length) (fun k => [(3, .v (.int .i64 (catS rs k).length)), (11, .v (.int .i64 k))]) (fun k => []) rs.length 0 rfl ?_ rfl ?_
  · try unfold ms25_0
    refine A1 tt ⟨?_⟩
    exact ⟨rfl, rfl⟩
  · intro n k hk
    try unfold ms25_0
    refine M1 tt ⟨?_⟩
    refine G1 F1 tt tt tt tt ⟨?_⟩
    refine cnd rfl (fun hc => ?_) (fun hc => ?_)
    · obtain ⟨c1, hrow⟩ := hr.2 k (by omega)
      have hs := catS_step rs k (by omega)
      have hle := catS_le rs (k + 1)
      have hs2 : (catS rs (k + 1)).length = (catS rs k).length + (rs.getD k []).length := by rw [hs, List.length_append]
      have e1 := i64n (((catS rs k).length : Int) + ((rs.getD k []).length : Int)) (catS rs (k + 1)).length (by omega) (by omega)
      have e2 := i64n ((k : Int) + 1) (k + 1) (by omega) (by omega)
      refine G1 F1 (an hrow (an e1 tt)) tt tt tt ⟨?_⟩
      refine cnd rfl (fun hc => ?_) (fun hc => ?_)
      · exact absurd hc (by omega)
      · refine G1 F1 (an e2 tt) tt tt tt ⟨?_⟩
        refine ⟨n - 1, k + 1, by omega, by omega, ?_, (by first | rfl | trivial)⟩
        try unfold ms25_0
        exact A0 tt
    · have : k = rs.length := by omega
      subst this
      have c := growS rs.flatten.length h0 h1
      repeat (first
        | (with_reducible refine lops_step fun K hK => ?_; simp (disch := first | exact dch | fail) only [go_sem, Nat.reduceAdd, Nat.reduceSub, reduceIte, Nat.reduceEqDiff, Int.reduceToNat, Int.reduceBEq, Int.reduceBNe, catS_all]; (repeat (with_reducible refine And.intro acl ?_)); (first | (refine hK _ _ ?_) | (refine ⟨_, rfl, hK _ _ ?_⟩) | (refine Or.inl (hK _ _ ?_)) | (refine ⟨_, _, Or.inl (c.go _), (by first | exact ⟨[], (List.append_nil _).symm⟩ | exact ⟨_, rfl⟩), hK _ _ ?_⟩) | (refine ⟨_, _, Or.inl (c.go _), hK _ _ ?_⟩) | (refine ⟨_, _, Or.inl (c.go _).weakQ, hK _ _ ?_⟩)); clear hK K)
        | (with_reducible refine lops_nil ?_)
        | (with_reducible first | refine lavc_reg ?_ | refine lavc_seq ?_ | refine lavc_block ?_ | refine lavc_skip ?_ | refine lavc_exit ?_ | refine lavc_ret ?_ | refine lavcR_round ?_)
        | (simp only [↓reduceIte, Nat.reduceEqDiff, reduceCtorEq]))
      refine lavc_loopM ms25_1 (fun n (x : Nat × Nat × List ByteArray) => n + x.1 = rs.length ∧ catS rs x.1 = x.2.2.take (catS rs x.1).length ∧ (catS rs x.1).length ≤ x.2.2.length ∧ (0 < x.1 → x.2.1 = (catS rs x.1).length ∧ x.2.2 = catS rs x.1)) (fun x => [(6, .sl 0 x.1 0 (catS rs x.1).length x.2.1 1 false), (27, .v (.int .i64 x.1))]) (fun x => [⟨strs x.2.2, x.1, true, 9⟩]) rs.length (0, rs.flatten.length, List.replicate rs.flatten.length ⟨#[]⟩) ⟨rfl, by simp [catS], by simp [catS], fun h => absurd h (by simp)⟩ ?_ rfl ?_
      · try unfold ms25_1
        refine A1 tt ⟨?_⟩
        exact ⟨rfl, rfl⟩
      · rintro n ⟨k, cap, cs⟩ ⟨hk, hcs, hcl, hpos⟩
        simp only at hk hcs hcl hpos
        try unfold ms25_1
        refine M1 tt ⟨?_⟩
        refine G1 F1 tt tt tt tt ⟨?_⟩
        refine cnd rfl (fun hc => ?_) (fun hc => ?_)
        · obtain ⟨c1, hrow⟩ := hr.2 k (by omega)
          have hs := catS_step rs k (by omega)
          have hle := catS_le rs (k + 1)
          have hs2 : (catS rs (k + 1)).length = (catS rs k).length + (rs.getD k []).length := by rw [hs, List.length_append]
          have e2 := i64n ((k : Int) + 1) (k + 1) (by omega) (by omega)
          repeat (first
            | (with_reducible refine lops_step fun K hK => ?_; simp (disch := first | exact dch | fail) only [go_sem, Nat.reduceAdd, Nat.reduceSub, reduceIte, Nat.reduceEqDiff, Int.reduceToNat, Int.reduceBEq, Int.reduceBNe, hrow, e2, strs_length, strs_one, strs_take, ← hs2, ← hcs, strs_append, ← hs]; (repeat (with_reducible refine And.intro acl ?_)); (first | (refine hK _ _ ?_) | (refine ⟨_, rfl, hK _ _ ?_⟩) | (refine Or.inl (hK _ _ ?_))); clear hK K)
            | (with_reducible refine lops_nil ?_)
            | (with_reducible first | refine lavc_reg ?_ | refine lavc_seq ?_ | refine lavc_block ?_ | refine lavc_skip ?_ | refine lavc_exit ?_ | refine lavc_ret ?_ | refine lavcR_round ?_)
            | (simp only [↓reduceIte, Nat.reduceEqDiff, reduceCtorEq]))
          refine ⟨n - 1, (k + 1, (catS rs (k + 1)).length, catS rs (k + 1)), by omega, ⟨by simp only; omega, by simp, by simp, fun _ => ⟨rfl, rfl⟩⟩, ?_, (by first | rfl | trivial)⟩
          try unfold ms25_1
          exact A0 tt
        · have : k = rs.length := by omega
          subst this
          have hpos1 : 0 < rs.length := by
            cases rs with
            | nil => simp at h0
            | cons => simp
          obtain ⟨rfl, rfl⟩ := hpos hpos1
          repeat (first
            | (with_reducible refine lops_step fun K hK => ?_; simp (disch := first | exact dch | fail) only [go_sem, Nat.reduceAdd, Nat.reduceSub, reduceIte, Nat.reduceEqDiff, Int.reduceToNat, Int.reduceBEq, Int.reduceBNe, catS_all]; (repeat (with_reducible refine And.intro acl ?_)); (first | (refine hK _ _ ?_) | (refine ⟨_, rfl, hK _ _ ?_⟩) | (refine Or.inl (hK _ _ ?_))); clear hK K)
            | (with_reducible refine lops_nil ?_)
            | (with_reducible first | refine lavc_reg ?_ | refine lavc_seq ?_ | refine lavc_block ?_ | refine lavc_skip ?_ | refine lavc_exit ?_ | refine lavc_ret ?_ | refine lavcR_round ?_)
            | (simp only [↓reduceIte, Nat.reduceEqDiff, reduceCtorEq]))
          refine And.intro (by simp) ?_
          simp (disch := first | exact dch | fail) only [go_sem, Nat.reduceAdd, Nat.reduceSub, reduceIte, Nat.reduceEqDiff, Int.reduceToNat, Int.reduceBEq, Int.reduceBNe, aret, aretL, aret1, aenv, catS_all]
          (repeat (with_reducible refine And.intro acl ?_))
          exact endN (NR.strs _) rfl
theorem concatS_p (xs : List AV) (cx : Option Nat) (rs : List (List ByteArray)) (hr : RwsS xs rs) (T : List ByteArray) (hT : rs.flatten = T) (h0 : 0 < T.length) (h1 : T.length ≤ 1000000) (h2 : rs.length ≤ 1000000) :
    PCall Tryd.prog glob 25 [.vsl rs.length xs cx] (.vsl T.length (strs T) none) := by
  have := (concatS_n xs cx rs hr T hT h0 h1 h2).view ctx.nr (by intro a ha; rw [List.mem_singleton] at ha; subst ha; exact NR.vsl hr.nr) (NR.strs _) (Nat.le_refl _) (by simp [strs_length])
  rwa [show (strs T).take (T.length * 1) = strs T from List.take_of_length_le (by simp [strs_length])] at this
end Go.Abs.S
namespace Go.Abs.S
open Go.Proofs
open Go.Abs.H
set_option linter.unusedVariables false
set_option linter.unusedSimpArgs false
set_option maxRecDepth 100000
set_option maxHeartbeats 4000000
def ltI : List Int → List Int → Prop
  | _, [] => False
  | [], _ :: _ => True
  | a :: x, b :: y => a < b ∨ (a = b ∧ ltI x y)
theorem ltI_irr : ∀ x, ¬ ltI x x
  | [], h => h
  | a :: x, h => by
    rcases h with h | ⟨_, h⟩
    · omega
    · exact ltI_irr x h
theorem ltI_asym : ∀ {x y}, ltI x y → ¬ ltI y x
  | x, [], h, _ => by cases x <;> exact h.elim
  | [], _ :: _, _, h => h.elim
  | a :: x, b :: y, h, g => by
    rcases h with h | ⟨h1, h2⟩ <;> rcases g with g | ⟨g1, g2⟩
    · omega
    · omega
    · omega
    · exact ltI_asym h2 g2
theorem ltI_app (p x y : List Int) : ltI (p ++ x) (p ++ y) ↔ ltI x y := by
  induction p with
  | nil => exact Iff.rfl
  | cons a p ih =>
    show (a < a ∨ (a = a ∧ ltI (p ++ x) (p ++ y))) ↔ _
    rw [ih]
    constructor
    · rintro (h | ⟨_, h⟩)
      · omega
      · exact h
    · exact fun h => .inr ⟨rfl, h⟩
abbrev By0 (l : List Int) : Prop := ∀ x ∈ l, 0 ≤ x ∧ x ≤ 255
theorem less_iff : ∀ {l m : List Int}, By0 l → By0 m → (Op.bytesLess (l.map fun n => UInt8.ofNat n.toNat) (m.map fun n => UInt8.ofNat n.toNat) = true ↔ ltI l m)
  | [], [], _, _ => by simp [Op.bytesLess, ltI]
  | _ :: _, [], _, _ => by simp [Op.bytesLess, ltI]
  | [], _ :: _, _, _ => by simp [Op.bytesLess, ltI]
  | a :: x, b :: y, hl, hm => by
    have ih := less_iff (l := x) (m := y) (fun z hz => hl z (List.mem_cons_of_mem _ hz)) (fun z hz => hm z (List.mem_cons_of_mem _ hz))
    have ha := hl a List.mem_cons_self
    have hb := hm b List.mem_cons_self
    have e1 : (UInt8.ofNat a.toNat < UInt8.ofNat b.toNat) ↔ a < b := by
      rw [UInt8.lt_iff_toNat_lt]
      simp only [UInt8.toNat_ofNat']
      omega
    have e2 : (UInt8.ofNat a.toNat = UInt8.ofNat b.toNat) ↔ a = b := by
      rw [← UInt8.toNat_inj]
      simp only [UInt8.toNat_ofNat']
      omega
    simp only [List.map_cons, Op.bytesLess, ltI, Bool.or_eq_true, Bool.and_eq_true, decide_eq_true_eq, beq_iff_eq, e1, e2, ih]
theorem str_less {l m : List Int} (hl : By0 l) (hm : By0 m) : Op.bytesLess (strOf l).toList (strOf m).toList = true ↔ ltI l m := by
  rw [str_list, str_list]
  exact less_iff hl hm
theorem ext_strOf (l : List Int) (a b : Nat) : (strOf l).extract a b = strOf ((l.take b).drop a) := by
  apply WideShapes.bytes_inj
  rw [Go.Abs.C.ext_list]
  simp [strOf, List.map_take, List.map_drop]
theorem bt_str {l : List Int} (hl : By0 l) (i : Nat) (h : i < l.length) : bt (strOf l) i = l.getD i 0 := by
  unfold bt strOf
  have hx := hl _ (List.getElem_mem h)
  simp only [List.getD_eq_getElem?_getD, List.getElem?_map, List.getElem?_eq_getElem h, Option.map_some, Option.getD_some]
  simp only [UInt8.toNat_ofNat']
  omega
abbrev c48 (n : Nat) : Int := ((48 + n % 10 : Nat) : Int)
/-- A moment's text, byte by byte. -/
theorem txt_list (t : Mom) : txt t = [c48 (t.x.y.toNat / 1000), c48 (t.x.y.toNat / 100), c48 (t.x.y.toNat / 10), c48 t.x.y.toNat, 45, c48 (t.x.m.toNat / 10), c48 t.x.m.toNat, 45, c48 (t.x.d.toNat / 10), c48 t.x.d.toNat, 84, c48 (t.h.toNat / 10), c48 t.h.toNat, 58, c48 (t.i.toNat / 10), c48 t.i.toNat, 58, c48 (t.s.toNat / 10), c48 t.s.toNat, 90] := by
  unfold txt
  simp only [digs2, digs4]
  rfl
theorem c48_in (n : Nat) : 0 ≤ c48 n ∧ c48 n ≤ 255 := by
  unfold c48
  omega
theorem txt_by (t : Mom) : By0 (txt t) := by
  rw [txt_list]
  intro x hx
  simp only [List.mem_cons, List.not_mem_nil, or_false] at hx
  rcases hx with rfl | rfl | rfl | rfl | rfl | rfl | rfl | rfl | rfl | rfl | rfl | rfl | rfl | rfl | rfl | rfl | rfl | rfl | rfl | rfl <;> first | exact c48_in _ | decide
theorem txt_length (t : Mom) : (txt t).length = 20 := by rw [txt_list]; rfl
/-- One moment ahead of another. -/
def lexLt (a b : Mom) : Prop := a.x.y < b.x.y ∨ (a.x.y = b.x.y ∧ (a.x.m < b.x.m ∨ (a.x.m = b.x.m ∧ (a.x.d < b.x.d ∨ (a.x.d = b.x.d ∧ (a.h < b.h ∨ (a.h = b.h ∧ (a.i < b.i ∨ (a.i = b.i ∧ a.s < b.s)))))))))
theorem lex_secs {a b : Mom} (ha : a.ok) (hb : b.ok) (h : lexLt a b) : secs a < secs b := by
  rcases h with h | ⟨h1, h | ⟨h2, h | ⟨h3, h⟩⟩⟩
  · exact secs_lt ha hb (.inl (day_lt ha.1 hb.1 (.inl h)))
  · exact secs_lt ha hb (.inl (day_lt ha.1 hb.1 (.inr ⟨h1, .inl h⟩)))
  · exact secs_lt ha hb (.inl (day_lt ha.1 hb.1 (.inr ⟨h1, .inr ⟨h2, h⟩⟩)))
  · refine secs_lt ha hb (.inr ⟨?_, h⟩)
    unfold dayN
    rw [h1, h2, h3]
theorem lex_tri (a b : Mom) : lexLt a b ∨ a = b ∨ lexLt b a := by
  obtain ⟨⟨y, m, d⟩, h, i, s⟩ := a
  obtain ⟨⟨y', m', d'⟩, h', i', s'⟩ := b
  unfold lexLt
  simp only [Mom.mk.injEq, Date.mk.injEq]
  omega
theorem dig_lt {a b : Int} (x y : List Int) (ha : 0 ≤ a) (h : a < b) (hb : b < 100) : ltI (digs a.toNat 2 ++ x) (digs b.toNat 2 ++ y) := by
  simp only [digs2, List.cons_append, List.nil_append, ltI]
  omega
theorem dig_lt4 {a b : Int} (x y : List Int) (ha : 0 ≤ a) (h : a < b) (hb : b < 10000) : ltI (digs a.toNat 4 ++ x) (digs b.toNat 4 ++ y) := by
  simp only [digs4, List.cons_append, List.nil_append, ltI]
  obtain ⟨n, rfl⟩ := Int.eq_ofNat_of_zero_le ha
  obtain ⟨m, rfl⟩ := Int.eq_ofNat_of_zero_le (show 0 ≤ b by omega)
  simp only [Int.toNat_natCast]
  have g0 : n / 1000 % 10 = n / 1000 := by omega
  have g1 : m / 1000 % 10 = m / 1000 := by omega
  rw [g0, g1]
  by_cases h1 : n / 1000 < m / 1000
  · exact .inl (by omega)
  have h1' : n / 1000 = m / 1000 := by omega
  refine .inr ⟨by rw [h1'], ?_⟩
  by_cases h2 : n / 100 < m / 100
  · exact .inl (by omega)
  have h2' : n / 100 = m / 100 := by omega
  refine .inr ⟨by rw [h2'], ?_⟩
  by_cases h3 : n / 10 < m / 10
  · exact .inl (by omega)
  have h3' : n / 10 = m / 10 := by omega
  refine .inr ⟨by rw [h3'], .inl (by omega)⟩
theorem ltI_cons (c : Int) (x y : List Int) : ltI (c :: x) (c :: y) ↔ ltI x y := ltI_app [c] x y
theorem lex_txt {a b : Mom} (ha : a.ok) (hb : b.ok) (h : lexLt a b) : ltI (txt a) (txt b) := by
  have aa := ha.1.all
  have ab := hb.1.all
  have a2 := ha.2
  have b2 := hb.2
  unfold txt
  simp only [List.append_assoc, List.cons_append]
  rcases h with h | ⟨h1, h | ⟨h2, h | ⟨h3, h | ⟨h4, h | ⟨h5, h⟩⟩⟩⟩⟩
  · exact dig_lt4 _ _ (by omega) h (by omega)
  · rw [h1, ltI_app, ltI_cons]
    exact dig_lt _ _ (by omega) h (by omega)
  · rw [h1, h2, ltI_app, ltI_cons, ltI_app, ltI_cons]
    exact dig_lt _ _ (by omega) h (by omega)
  · rw [h1, h2, h3, ltI_app, ltI_cons, ltI_app, ltI_cons, ltI_app, ltI_cons]
    exact dig_lt _ _ (by omega) h (by omega)
  · rw [h1, h2, h3, h4, ltI_app, ltI_cons, ltI_app, ltI_cons, ltI_app, ltI_cons, ltI_app, ltI_cons]
    exact dig_lt _ _ (by omega) h (by omega)
  · rw [h1, h2, h3, h4, h5, ltI_app, ltI_cons, ltI_app, ltI_cons, ltI_app, ltI_cons, ltI_app, ltI_cons, ltI_app, ltI_cons]
    exact dig_lt _ _ (by omega) h (by omega)
theorem secs_txt {a b : Mom} (ha : a.ok) (hb : b.ok) : secs a < secs b ↔ ltI (txt a) (txt b) := by
  constructor
  · intro h
    rcases lex_tri a b with g | rfl | g
    · exact lex_txt ha hb g
    · omega
    · have := lex_secs hb ha g
      omega
  · intro h
    rcases lex_tri a b with g | rfl | g
    · exact lex_secs ha hb g
    · exact absurd h (ltI_irr _)
    · exact absurd h (ltI_asym (lex_txt hb ha g))
theorem txt_less {a b : Mom} (ha : a.ok) (hb : b.ok) : Op.bytesLess (strOf (txt a)).toList (strOf (txt b)).toList = decide (secs a < secs b) := by
  rw [Bool.eq_iff_iff, decide_eq_true_eq, str_less (txt_by a) (txt_by b), secs_txt ha hb]
theorem txt_inj {a b : Mom} (ha : a.ok) (hb : b.ok) : strOf (txt a) = strOf (txt b) ↔ secs a = secs b := by
  constructor
  · intro h
    have h := str_inj (txt_by a) (txt_by b) h
    rcases lex_tri a b with g | rfl | g
    · have := lex_txt ha hb g
      rw [h] at this
      exact absurd this (ltI_irr _)
    · rfl
    · have := lex_txt hb ha g
      rw [h] at this
      exact absurd this (ltI_irr _)
  · intro h
    rw [secs_inj ha hb h]
/-- A moment's text is read as it. -/
theorem bt_txt (t : Mom) (i : Nat) (h : i < 20) : bt (strOf (txt t)) i = (txt t).getD i 0 := bt_str (txt_by t) i (by rw [txt_length]; exact h)
end Go.Abs.S
namespace Go.Abs.S
open Go.Proofs
open Go.Abs.H
set_option linter.unusedVariables false
set_option linter.unusedSimpArgs false
set_option maxRecDepth 100000
set_option maxHeartbeats 4000000
theorem c48_d (n : Nat) : 48 ≤ c48 n ∧ c48 n ≤ 57 := by
  unfold c48
  omega
theorem two_c48 {x : Int} (h0 : 0 ≤ x) (h1 : x < 100) : (c48 (x.toNat / 10) - 48) * 10 + (c48 x.toNat - 48) = x := by
  unfold c48
  omega
theorem four_c48 {x : Int} (h0 : 0 ≤ x) (h1 : x < 10000) : (((c48 (x.toNat / 1000) - 48) * 10 + (c48 (x.toNat / 100) - 48)) * 10 + (c48 (x.toNat / 10) - 48)) * 10 + (c48 x.toNat - 48) = x := by
  unfold c48
  omega
/-- Bytes that begin as a moment's text does. -/
structure Begins (s : ByteArray) (t : Mom) : Prop where
  b0 : bt s 0 = c48 (t.x.y.toNat / 1000)
  b1 : bt s 1 = c48 (t.x.y.toNat / 100)
  b2 : bt s 2 = c48 (t.x.y.toNat / 10)
  b3 : bt s 3 = c48 t.x.y.toNat
  b4 : bt s 4 = 45
  b5 : bt s 5 = c48 (t.x.m.toNat / 10)
  b6 : bt s 6 = c48 t.x.m.toNat
  b7 : bt s 7 = 45
  b8 : bt s 8 = c48 (t.x.d.toNat / 10)
  b9 : bt s 9 = c48 t.x.d.toNat
  b10 : bt s 10 = 84
  b11 : bt s 11 = c48 (t.h.toNat / 10)
  b12 : bt s 12 = c48 t.h.toNat
  b13 : bt s 13 = 58
  b14 : bt s 14 = c48 (t.i.toNat / 10)
  b15 : bt s 15 = c48 t.i.toNat
  b16 : bt s 16 = 58
  b17 : bt s 17 = c48 (t.s.toNat / 10)
  b18 : bt s 18 = c48 t.s.toNat
theorem Begins.d19 {s : ByteArray} {t : Mom} (b : Begins s t) : D19 s := by
  unfold D19 dg
  rw [b.b0, b.b1, b.b2, b.b3, b.b4, b.b5, b.b6, b.b7, b.b8, b.b9, b.b10, b.b11, b.b12, b.b13, b.b14, b.b15, b.b16, b.b17, b.b18]
  exact ⟨⟨c48_d _, c48_d _, c48_d _, c48_d _⟩, rfl, ⟨c48_d _, c48_d _⟩, rfl, ⟨c48_d _, c48_d _⟩, rfl, ⟨c48_d _, c48_d _⟩, rfl, ⟨c48_d _, c48_d _⟩, rfl, ⟨c48_d _, c48_d _⟩⟩
theorem Begins.mom {s : ByteArray} {t : Mom} (b : Begins s t) (ht : t.ok) : momS s = t := by
  have ha := ht.1.all
  have hh := ht.2
  unfold momS n4 n2
  simp only [Nat.zero_add, Nat.reduceAdd]
  rw [b.b0, b.b1, b.b2, b.b3, b.b5, b.b6, b.b8, b.b9, b.b11, b.b12, b.b14, b.b15, b.b17, b.b18]
  rw [four_c48 (x := t.x.y) (by omega) (by omega), two_c48 (x := t.x.m) (by omega) (by omega), two_c48 (x := t.x.d) (by omega) (by omega), two_c48 (x := t.h) (by omega) (by omega), two_c48 (x := t.i) (by omega) (by omega), two_c48 (x := t.s) (by omega) (by omega)]
theorem begins_of {l : List Int} (hl : By0 l) (t : Mom) (r : List Int) (h : l = (txt t).take 19 ++ r) : Begins (strOf l) t := by
  have hlen : 19 ≤ l.length := by rw [h, List.length_append, List.length_take, txt_length]; omega
  have e : ∀ i, i < 19 → bt (strOf l) i = (txt t).getD i 0 := fun i hi => by
    rw [bt_str hl i (by omega), h]
    simp only [List.getD_eq_getElem?_getD]
    rw [List.getElem?_append_left (by rw [List.length_take, txt_length]; omega), List.getElem?_take, if_pos hi]
  have f : ∀ i v, i < 19 → (txt t).getD i 0 = v → bt (strOf l) i = v := fun i v hi hv => by rw [e i hi, hv]
  have g := txt_list t
  exact ⟨f 0 _ (by omega) (by rw [g]; rfl), f 1 _ (by omega) (by rw [g]; rfl), f 2 _ (by omega) (by rw [g]; rfl), f 3 _ (by omega) (by rw [g]; rfl), f 4 _ (by omega) (by rw [g]; rfl), f 5 _ (by omega) (by rw [g]; rfl), f 6 _ (by omega) (by rw [g]; rfl), f 7 _ (by omega) (by rw [g]; rfl), f 8 _ (by omega) (by rw [g]; rfl), f 9 _ (by omega) (by rw [g]; rfl), f 10 _ (by omega) (by rw [g]; rfl), f 11 _ (by omega) (by rw [g]; rfl), f 12 _ (by omega) (by rw [g]; rfl), f 13 _ (by omega) (by rw [g]; rfl), f 14 _ (by omega) (by rw [g]; rfl), f 15 _ (by omega) (by rw [g]; rfl), f 16 _ (by omega) (by rw [g]; rfl), f 17 _ (by omega) (by rw [g]; rfl), f 18 _ (by omega) (by rw [g]; rfl)⟩
theorem read_txt (t : Mom) (ht : t.ok) : readP (strOf (txt t)) = (secs t, 0) := by
  have hb : Begins (strOf (txt t)) t := begins_of (txt_by t) t [90] (by rw [txt_list]; rfl)
  have hs : (strOf (txt t)).size = 20 := by rw [str_size, txt_length]
  have h19 : bt (strOf (txt t)) 19 = 90 := by rw [bt_txt t 19 (by omega), txt_list]; rfl
  have hF : Formed (strOf (txt t)) := ⟨hb.d19, .inl ⟨hs, h19⟩⟩
  have hsh : shf (strOf (txt t)) = 0 := by unfold shf; rw [if_pos hs]
  have hi := secs_in ht
  unfold readP
  rw [if_neg (not_not_intro hF), if_neg (by omega), hb.mom ht, if_neg (not_not_intro ht), hsh, Int.add_zero, if_neg (by omega)]
/-- A text of twenty bytes that tells a time is that time's. -/
theorem txt_read (s : ByteArray) (hF : Formed s) (hs : s.size = 20) (hok : (momS s).ok) : strOf (txt (momS s)) = s := by
  obtain ⟨hd, hc⟩ := hF
  have h19 : bt s 19 = 90 := by rcases hc with h | h <;> omega
  obtain ⟨⟨h0, h1, h2, h3⟩, h4, ⟨h5, h6⟩, h7, ⟨h8, h9⟩, h10, ⟨h11, h12⟩, h13, ⟨h14, h15⟩, h16, ⟨h17, h18⟩⟩ := hd
  have hl : bytesOf s = [bt s 0, bt s 1, bt s 2, bt s 3, bt s 4, bt s 5, bt s 6, bt s 7, bt s 8, bt s 9, bt s 10, bt s 11, bt s 12, bt s 13, bt s 14, bt s 15, bt s 16, bt s 17, bt s 18, bt s 19] := by
    have h1 : bytesOf s = (List.range 20).map (bt s) := by
      apply List.ext_getElem
      · rw [bytesOf_length, hs]
        simp
      · intro i g1 g2
        have := bytesOf_at s i (by rw [bytesOf_length] at g1; exact g1)
        rw [List.getD_eq_getElem?_getD, List.getElem?_eq_getElem g1, Option.getD_some] at this
        rw [this]
        simp
    rw [h1]
    rfl
  have d2 : ∀ i, dg s i ∧ dg s (i + 1) → c48 ((n2 s i).toNat / 10) = bt s i ∧ c48 (n2 s i).toNat = bt s (i + 1) := fun i h => by
    unfold n2 c48
    unfold dg at h
    omega
  have d4 : c48 ((n4 s 0).toNat / 1000) = bt s 0 ∧ c48 ((n4 s 0).toNat / 100) = bt s 1 ∧ c48 ((n4 s 0).toNat / 10) = bt s 2 ∧ c48 (n4 s 0).toNat = bt s 3 := by
    unfold n4 c48
    simp only [Nat.zero_add]
    unfold dg at h0 h1 h2 h3
    generalize bt s 0 = a at *
    generalize bt s 1 = b at *
    generalize bt s 2 = c at *
    generalize bt s 3 = d at *
    obtain ⟨a, rfl⟩ : ∃ a' : Nat, a = ((48 + a' : Nat) : Int) := ⟨(a - 48).toNat, by omega⟩
    obtain ⟨b, rfl⟩ : ∃ b' : Nat, b = ((48 + b' : Nat) : Int) := ⟨(b - 48).toNat, by omega⟩
    obtain ⟨c, rfl⟩ : ∃ c' : Nat, c = ((48 + c' : Nat) : Int) := ⟨(c - 48).toNat, by omega⟩
    obtain ⟨d, rfl⟩ : ∃ d' : Nat, d = ((48 + d' : Nat) : Int) := ⟨(d - 48).toNat, by omega⟩
    obtain ⟨N, hN⟩ : ∃ N : Nat, ((((((48 + a : Nat) : Int) - 48) * 10 + (((48 + b : Nat) : Int) - 48)) * 10 + (((48 + c : Nat) : Int) - 48)) * 10 + (((48 + d : Nat) : Int) - 48)).toNat = N := ⟨_, rfl⟩
    rw [hN]
    have hN' : N = ((a * 10 + b) * 10 + c) * 10 + d := by omega
    refine ⟨by omega, by omega, by omega, by omega⟩
  have e5 := d2 5 ⟨h5, h6⟩
  have e8 := d2 8 ⟨h8, h9⟩
  have e11 := d2 11 ⟨h11, h12⟩
  have e14 := d2 14 ⟨h14, h15⟩
  have e17 := d2 17 ⟨h17, h18⟩
  have ht : txt (momS s) = bytesOf s := by
    rw [hl, txt_list]
    show [c48 ((n4 s 0).toNat / 1000), c48 ((n4 s 0).toNat / 100), c48 ((n4 s 0).toNat / 10), c48 (n4 s 0).toNat, 45, c48 ((n2 s 5).toNat / 10), c48 (n2 s 5).toNat, 45, c48 ((n2 s 8).toNat / 10), c48 (n2 s 8).toNat, 84, c48 ((n2 s 11).toNat / 10), c48 (n2 s 11).toNat, 58, c48 ((n2 s 14).toNat / 10), c48 (n2 s 14).toNat, 58, c48 ((n2 s 17).toNat / 10), c48 (n2 s 17).toNat, 90] = _
    rw [d4.1, d4.2.1, d4.2.2.1, d4.2.2.2, e5.1, e5.2, e8.1, e8.2, e11.1, e11.2, e14.1, e14.2, e17.1, e17.2, h4, h7, h10, h13, h16, h19]
  rw [ht]
  exact str_bytes s
end Go.Abs.S
namespace Go.Abs.S
attribute [local go_sem] lguard aopO aop aenv toAV tput aLoad aStore vcells aBin aNilI aUn aAlloc aBox aBuild aBSlice afill aConv isIntT aappZ aCap aArr aMM aMake aSlice bnd3 bnd aFldAddr aFld aIdxAddr aIdx aExt aLen aCopy aEq0 bAV aUb aapp aappQ agh acont List.getD_cons_zero List.getD_cons_succ List.set_cons_zero List.set_cons_succ List.getElem?_cons_zero List.getElem?_cons_succ List.length_cons List.length_nil List.map_cons List.map_nil ints_length if_true if_false Bool.false_eq_true true_and and_true eq_self ne_eq not_false_eq_true not_true_eq_false beq_self_eq_true Nat.zero_add Nat.add_zero Nat.mul_one Nat.zero_mul Int.toNat_natCast List.toList_toArray List.all_cons List.all_nil AV.one Value.oneCell' Bool.and_true Bool.true_and forall_const true_implies false_implies implies_true Option.map_some Option.map_none Option.isSome_some Option.isSome_none imp_self rdP_flat rdP_row splice_one ints_set ints_get List.append_nil List.cons_append List.nil_append List.getElem?_toArray List.drop_zero ints_drop ints_take List.take_of_length_le splice_all ints_one Option.some.injEq Option.getD_some List.length_replicate zArr List.map_replicate rep_ints splice_intsR List.length_set List.length_append List.flatten_replicate_singleton rep_slice rep_string rep_bool rep_iface List.replicate_zero if_pos if_neg List.mapM_cons List.mapM_nil Option.pure_def Option.bind_eq_bind Option.bind_some Bool.true_eq_false Bool.not_false Bool.not_true get_concat set_concat
open Go.Proofs
open Go.Abs.H
open Go.Proofs.YtgmchiadphdlhaaDoor.Chk
set_option linter.unusedVariables false
set_option linter.unusedSimpArgs false
set_option maxRecDepth 100000
set_option maxHeartbeats 4000000
theorem pick_mem (ss : List ByteArray) (d : Nat) (hd : d < 2) (pre : List Nat) : ∀ s ∈ pick ss d pre, s ∈ ss := by
  intro s hs
  simp only [pick, List.mem_filterMap] at hs
  obtain ⟨k, _, hk⟩ := hs
  split at hk
  · simp only [Option.some.injEq] at hk
    rw [← hk, List.getD_eq_getElem?_getD, List.getElem?_eq_getElem (by omega)]
    exact List.getElem_mem _
  · exact absurd hk (by simp)
theorem nms_mem (ss : List ByteArray) : ∀ s ∈ nms ss, s ∈ ss := pick_mem ss 0 (by omega) _
theorem txs_mem (ss : List ByteArray) : ∀ s ∈ txs ss, s ∈ ss := pick_mem ss 1 (by omega) _
theorem txs_len (ss : List ByteArray) : (txs ss).length = (nms ss).length := pick_len ss 1 0 _

/-- A name's text, of a page of texts. -/
def txP (N X : List ByteArray) (name : ByteArray) : ByteArray × Bool := if idxK N name 0 < 0 then (⟨#[]⟩, false) else (X.getD (idxK N name 0).toNat ⟨#[]⟩, true)
theorem textT_p (N X : List ByteArray) (hX : X.length = N.length) (hl : N.length ≤ 1000) (now : Int) (name : ByteArray) :
    PCall Tryd.prog glob 29 [claA (.vsl N.length (strs N) none) (.vsl N.length (vals X) none) now, stA name] (.tup [stA (txP N X name).1, .v (.bool (txP N X name).2)]) := by
  have g := get_p N X hX hl name
  unfold getA at g
  unfold txP
  split at g
  · rename_i h
    rw [if_pos h]
    exact text_p _ _ (NR.vsl (NR.strs _)) (NR.vsl (NR.valsX _)) now name 0 ⟨#[]⟩ nlA nlA (.inl rfl) (.inl rfl) false g
  · rename_i h
    rw [if_neg h]
    exact text_p _ _ (NR.vsl (NR.strs _)) (NR.vsl (NR.valsX _)) now name 4 (X.getD (idxK N name 0).toNat ⟨#[]⟩) nlA nlA (.inl rfl) (.inl rfl) true g
theorem txP_size (N X : List ByteArray) (hx : ∀ s ∈ X, s.size ≤ 9223372036854775807) (name : ByteArray) : (txP N X name).1.size ≤ 9223372036854775807 := by
  unfold txP
  split
  · exact Nat.zero_le _
  · simp only
    by_cases h : (idxK N name 0).toNat < X.length
    · rw [List.getD_eq_getElem?_getD, List.getElem?_eq_getElem h]
      exact hx _ (List.getElem_mem h)
    · rw [List.getD_eq_getElem?_getD, List.getElem?_eq_none (by omega)]
      exact Nat.zero_le _
/-- What rules say of a page of texts. -/
def chkPg (N X : List ByteArray) (now : Int) (l : List Rule3) : Int := if goodPg N X = 0 then chkAll (txP N X) now l else 2
theorem CheckT_p (N X : List ByteArray) (hX : X.length = N.length) (hl : N.length ≤ 1000) (hz : ∀ s ∈ N, s.size ≤ 9223372036854775807) (hx : ∀ s ∈ X, s.size ≤ 9223372036854775807) (now : Int) (l : List Rule3) (hll : l.length ≤ 1000) (hr : ∀ r ∈ l, r.1 ≠ 1 → r.1 ≠ 2 → (txP N X r.2.1).1.size ≤ 1000000) (c : Option Nat) :
    PCall Tryd.prog glob 8 [pageA N X, ivC now, .vsl l.length (rulesA l) c] (ivC (chkPg N X now l)) := by
  have g := Good_p N X hX hl hz hx
  unfold chkPg
  by_cases h : goodPg N X = 0
  · rw [if_pos h]
    rw [h] at g
    exact Check_p _ _ (NR.strs _) _ _ (NR.valsX _) now g (txP N X) (textT_p N X hX hl now) l hll hr c
  · rw [if_neg h]
    exact Check_bad _ _ _ _ (NR.strs _) _ _ (NR.valsX _) now _ g (.inr h) l c
/-- The texts that claims are made of. -/
def mk8 (i a x y : ByteArray) : List ByteArray := [issB, i, audB, a, nbfB, x, expB, y]
abbrev zeroA : AV := .agg [ivC 0, stA ⟨#[]⟩, nlA, nlA]
/-- A page and 0, or none and what is wrong. -/
def madeA (ss : List ByteArray) : AV := if goodPg (nms ss) (txs ss) = 0 then .tup [pageA (nms ss) (txs ss), ivC 0] else .tup [zeroA, ivC (goodPg (nms ss) (txs ss))]
theorem NR.zeroA : NR zeroA := NR.agg (by intro c hc; simp only [List.mem_cons, List.not_mem_nil, or_false] at hc; rcases hc with rfl | rfl | rfl | rfl <;> exact NR.v _)
theorem NR.t2n {a b : AV} (ha : NR a) (hb : NR b) : NR (.tup [a, b]) := NR.tup (by intro c hc; simp only [List.mem_cons, List.not_mem_nil, or_false] at hc; rcases hc with rfl | rfl; exact ha; exact hb)
theorem NR.madeA (ss : List ByteArray) : NR (madeA ss) := by
  unfold Go.Abs.S.madeA
  split
  · exact NR.t2n (NR.pageA _ _) (NR.v _)
  · exact NR.t2n NR.zeroA (NR.v _)
theorem make_nr (i a : ByteArray) (n m : Int) (more : List ByteArray) (c : Option Nat) : ∀ x ∈ [stA i, stA a, ivC n, ivC m, .vsl more.length (strs more) c], NR x := by
  intro x hx
  simp only [List.mem_cons, List.not_mem_nil, or_false] at hx
  rcases hx with rfl | rfl | rfl | rfl | rfl
  · exact NR.v _
  · exact NR.v _
  · exact NR.v _
  · exact NR.v _
  · exact NR.vsl (NR.strs _)
theorem Make_bad1 (i a : ByteArray) (n m : Int) (h : ¬ (tFirst ≤ n ∧ n ≤ tLast)) (more : List ByteArray) (c : Option Nat) :
    PCall Tryd.prog glob 12 [stA i, stA a, ivC n, ivC m, .vsl more.length (strs more) c] (.tup [zeroA, ivC 12]) := by
  refine PCall.of ctx.nr (make_nr i a n m more c) (NR.t2n NR.zeroA (NR.v _)) ?_
  refine lcall12 (by simp) 0 (Nat.le_refl _) ?_
  unfold lc12
  refine I1 tt ⟨?_⟩
  have tb := Text_bad n h
  refine G1 F4 tt (an tb.go tt) tt tt ⟨?_⟩
  refine R1 tt ⟨?_⟩
  exact end0 (NR.t2n NR.zeroA (NR.v _)) rfl
theorem Make_bad2 (i a : ByteArray) (t : Mom) (ht : t.ok) (m : Int) (h : ¬ (tFirst ≤ m ∧ m ≤ tLast)) (more : List ByteArray) (c : Option Nat) :
    PCall Tryd.prog glob 12 [stA i, stA a, ivC (secs t), ivC m, .vsl more.length (strs more) c] (.tup [zeroA, ivC 12]) := by
  refine PCall.of ctx.nr (make_nr i a _ m more c) (NR.t2n NR.zeroA (NR.v _)) ?_
  refine lcall12 (by simp) 0 (Nat.le_refl _) ?_
  unfold lc12
  refine I1 tt ⟨?_⟩
  have tb := Text_bad m h
  have tp := Text_p t ht
  refine G1 F4 tt (an tp.go (an tb.go tt)) tt tt ⟨?_⟩
  refine R1 tt ⟨?_⟩
  exact end0 (NR.t2n NR.zeroA (NR.v _)) rfl
theorem Make_p (i a : ByteArray) (t u : Mom) (ht : t.ok) (hu : u.ok) (more : List ByteArray) (c : Option Nat) (hm : more.length ≤ 100) (hi : i.size ≤ 9223372036854775807) (ha : a.size ≤ 9223372036854775807) (hs : ∀ s ∈ more, s.size ≤ 9223372036854775807) :
    PCall Tryd.prog glob 12 [stA i, stA a, ivC (secs t), ivC (secs u), .vsl more.length (strs more) c] (madeA (mk8 i a (strOf (txt t)) (strOf (txt u)) ++ more)) := by
  refine PCall.of ctx.nr (make_nr i a _ _ more c) (NR.madeA _) ?_
  have tp := Text_p t ht
  have up := Text_p u hu
  have zt : (strOf (txt t)).size = 20 := by rw [str_size, txt_length]
  have zu : (strOf (txt u)).size = 20 := by rw [str_size, txt_length]
  refine lcall12 (by simp) 0 (Nat.le_refl _) ?_
  unfold lc12
  refine I1 tt ⟨?_⟩
  obtain ⟨x, hx⟩ : ∃ x, strOf (txt t) = x := ⟨_, rfl⟩
  obtain ⟨y, hy⟩ : ∃ y, strOf (txt u) = y := ⟨_, rfl⟩
  rw [hx] at tp zt ⊢
  rw [hy] at up zu ⊢
  obtain ⟨n, hn⟩ : ∃ n, secs t = n := ⟨_, rfl⟩
  obtain ⟨m, hm'⟩ : ∃ n, secs u = n := ⟨_, rfl⟩
  rw [hn] at tp ⊢
  rw [hm'] at up ⊢
  have hall : ∀ s ∈ mk8 i a x y ++ more, s.size ≤ 9223372036854775807 := by
    intro s h
    rw [List.mem_append] at h
    rcases h with h | h
    · simp only [mk8, List.mem_cons, List.not_mem_nil, or_false] at h
      rcases h with rfl | rfl | rfl | rfl | rfl | rfl | rfl | rfl
      all_goals first | assumption | omega | decide
    · exact hs s h
  have hT : (mk8 i a x y ++ more).length = 8 + more.length := by rw [List.length_append]; rfl
  have cc := concatS_p [.vsl 8 (strs (mk8 i a x y)) (some 8), .vsl more.length (strs more) c] (some 2) [mk8 i a x y, more] (RwsS.cons rfl (RwsS.cons rfl RwsS.nil)) (mk8 i a x y ++ more) (by simp) (by omega) (by omega) (show 2 ≤ 1000000 by decide)
  obtain ⟨T, hT2⟩ : ∃ T, mk8 i a x y ++ more = T := ⟨_, rfl⟩
  rw [hT2] at cc hT hall ⊢
  have po := pageOf_p T none (by omega)

  have hlen : (nms T).length ≤ 1000 := by
    refine Nat.le_trans (Nat.le_trans (pick_le T 0 _) ?_) (show T.length ≤ 1000 by omega)
    rw [List.length_range]
    unfold parts
    omega
  have gp := Good_p (nms T) (txs T) (txs_len T) hlen (fun s h => hall s (nms_mem T s h)) (fun s h => hall s (txs_mem T s h))
  have hnr := NR.madeA T
  unfold madeA at hnr ⊢
  unfold pageA at po gp hnr ⊢
  unfold strs at cc
  simp only [mk8, List.map_cons, List.map_nil] at cc
  have cc : PCall Tryd.prog glob 25 [.vsl 2 [.vsl 8 [stA issB, stA i, stA audB, stA a, stA nbfB, stA x, stA expB, stA y] (some 8), .vsl more.length (strs more) c] (some 2)] (.vsl T.length (strs T) none) := cc
  obtain ⟨g, hg⟩ : ∃ g, goodPg (nms T) (txs T) = g := ⟨_, rfl⟩
  rw [hg] at gp hnr ⊢
  by_cases h0 : g = 0
  · subst h0
    rw [if_pos rfl] at hnr ⊢
    repeat (first
      | (with_reducible refine lops_step fun K hK => ?_; simp (disch := first | exact dch | fail) only [go_sem, Nat.reduceAdd, Nat.reduceSub, reduceIte, Nat.reduceEqDiff, Int.reduceToNat, Int.reduceBEq, Int.reduceBNe, List.replicate_succ, List.replicate_zero, List.flatten_cons, List.flatten_nil, List.cons_append, List.nil_append]; (try (first | (refine And.intro (fun _ => ?_) (fun h => absurd h (by decide))) | (refine And.intro (fun h => absurd h (by decide)) (fun _ => ?_)))); (repeat (with_reducible refine And.intro acl ?_)); (first | (refine hK _ _ ?_) | (refine ⟨_, rfl, hK _ _ ?_⟩) | (refine Or.inl (hK _ _ ?_)) | (refine ⟨_, _, Or.inl (tp.go _), (by first | exact ⟨[], (List.append_nil _).symm⟩ | exact ⟨_, rfl⟩), hK _ _ ?_⟩) | (refine ⟨_, _, Or.inl (tp.go _), hK _ _ ?_⟩) | (refine ⟨_, _, Or.inl (tp.go _).weakQ, hK _ _ ?_⟩) | (refine ⟨_, _, Or.inl (up.go _), (by first | exact ⟨[], (List.append_nil _).symm⟩ | exact ⟨_, rfl⟩), hK _ _ ?_⟩) | (refine ⟨_, _, Or.inl (up.go _), hK _ _ ?_⟩) | (refine ⟨_, _, Or.inl (up.go _).weakQ, hK _ _ ?_⟩) | (refine ⟨_, _, Or.inl (cc.go _), (by first | exact ⟨[], (List.append_nil _).symm⟩ | exact ⟨_, rfl⟩), hK _ _ ?_⟩) | (refine ⟨_, _, Or.inl (cc.go _), hK _ _ ?_⟩) | (refine ⟨_, _, Or.inl (cc.go _).weakQ, hK _ _ ?_⟩) | (refine ⟨_, _, Or.inl (po.go _), (by first | exact ⟨[], (List.append_nil _).symm⟩ | exact ⟨_, rfl⟩), hK _ _ ?_⟩) | (refine ⟨_, _, Or.inl (po.go _), hK _ _ ?_⟩) | (refine ⟨_, _, Or.inl (po.go _).weakQ, hK _ _ ?_⟩) | (refine ⟨_, _, Or.inl (gp.go _), (by first | exact ⟨[], (List.append_nil _).symm⟩ | exact ⟨_, rfl⟩), hK _ _ ?_⟩) | (refine ⟨_, _, Or.inl (gp.go _), hK _ _ ?_⟩) | (refine ⟨_, _, Or.inl (gp.go _).weakQ, hK _ _ ?_⟩)); clear hK K)
      | (with_reducible refine lops_nil ?_)
      | (with_reducible first | refine lavc_reg ?_ | refine lavc_seq ?_ | refine lavc_block ?_ | refine lavc_skip ?_ | refine lavc_exit ?_ | refine lavc_ret ?_ | refine lavcR_round ?_)
      | (refine lavc_cond rfl (fun _ => ?_) (fun hc => absurd hc (by decide)))
      | (refine lavc_cond rfl (fun hc => absurd hc (by decide)) (fun _ => ?_))
      | (simp only [↓reduceIte, Nat.reduceEqDiff, reduceCtorEq]))
    refine R1 tt ⟨?_⟩
    exact end0 hnr rfl
  · rw [if_neg h0] at hnr ⊢
    have d : ((g : Int) != 0) = true := by rw [bne_iff_ne, ne_eq]; omega
    repeat (first
      | (with_reducible refine lops_step fun K hK => ?_; simp (disch := first | exact dch | fail) only [go_sem, Nat.reduceAdd, Nat.reduceSub, reduceIte, Nat.reduceEqDiff, Int.reduceToNat, Int.reduceBEq, Int.reduceBNe, d, List.replicate_succ, List.replicate_zero, List.flatten_cons, List.flatten_nil, List.cons_append, List.nil_append]; (try (first | (refine And.intro (fun _ => ?_) (fun h => absurd h (by decide))) | (refine And.intro (fun h => absurd h (by decide)) (fun _ => ?_)))); (repeat (with_reducible refine And.intro acl ?_)); (first | (refine hK _ _ ?_) | (refine ⟨_, rfl, hK _ _ ?_⟩) | (refine Or.inl (hK _ _ ?_)) | (refine ⟨_, _, Or.inl (tp.go _), (by first | exact ⟨[], (List.append_nil _).symm⟩ | exact ⟨_, rfl⟩), hK _ _ ?_⟩) | (refine ⟨_, _, Or.inl (tp.go _), hK _ _ ?_⟩) | (refine ⟨_, _, Or.inl (tp.go _).weakQ, hK _ _ ?_⟩) | (refine ⟨_, _, Or.inl (up.go _), (by first | exact ⟨[], (List.append_nil _).symm⟩ | exact ⟨_, rfl⟩), hK _ _ ?_⟩) | (refine ⟨_, _, Or.inl (up.go _), hK _ _ ?_⟩) | (refine ⟨_, _, Or.inl (up.go _).weakQ, hK _ _ ?_⟩) | (refine ⟨_, _, Or.inl (cc.go _), (by first | exact ⟨[], (List.append_nil _).symm⟩ | exact ⟨_, rfl⟩), hK _ _ ?_⟩) | (refine ⟨_, _, Or.inl (cc.go _), hK _ _ ?_⟩) | (refine ⟨_, _, Or.inl (cc.go _).weakQ, hK _ _ ?_⟩) | (refine ⟨_, _, Or.inl (po.go _), (by first | exact ⟨[], (List.append_nil _).symm⟩ | exact ⟨_, rfl⟩), hK _ _ ?_⟩) | (refine ⟨_, _, Or.inl (po.go _), hK _ _ ?_⟩) | (refine ⟨_, _, Or.inl (po.go _).weakQ, hK _ _ ?_⟩) | (refine ⟨_, _, Or.inl (gp.go _), (by first | exact ⟨[], (List.append_nil _).symm⟩ | exact ⟨_, rfl⟩), hK _ _ ?_⟩) | (refine ⟨_, _, Or.inl (gp.go _), hK _ _ ?_⟩) | (refine ⟨_, _, Or.inl (gp.go _).weakQ, hK _ _ ?_⟩)); clear hK K)
      | (with_reducible refine lops_nil ?_)
      | (with_reducible first | refine lavc_reg ?_ | refine lavc_seq ?_ | refine lavc_block ?_ | refine lavc_skip ?_ | refine lavc_exit ?_ | refine lavc_ret ?_ | refine lavcR_round ?_)
      | (refine lavc_cond rfl (fun _ => ?_) (fun hc => absurd hc (by decide)))
      | (refine lavc_cond rfl (fun hc => absurd hc (by decide)) (fun _ => ?_))
      | (simp only [↓reduceIte, Nat.reduceEqDiff, reduceCtorEq]))
    refine R1 tt ⟨?_⟩
    exact end0 hnr rfl
end Go.Abs.S
namespace Go.Abs.S
attribute [local go_sem] lguard aopO aop aenv toAV tput aLoad aStore vcells aBin aNilI aUn aAlloc aBox aBuild aBSlice afill aConv isIntT aappZ aCap aArr aMM aMake aSlice bnd3 bnd aFldAddr aFld aIdxAddr aIdx aExt aLen aCopy aEq0 bAV aUb aapp aappQ agh acont List.getD_cons_zero List.getD_cons_succ List.set_cons_zero List.set_cons_succ List.getElem?_cons_zero List.getElem?_cons_succ List.length_cons List.length_nil List.map_cons List.map_nil ints_length if_true if_false Bool.false_eq_true true_and and_true eq_self ne_eq not_false_eq_true not_true_eq_false beq_self_eq_true Nat.zero_add Nat.add_zero Nat.mul_one Nat.zero_mul Int.toNat_natCast List.toList_toArray List.all_cons List.all_nil AV.one Value.oneCell' Bool.and_true Bool.true_and forall_const true_implies false_implies implies_true Option.map_some Option.map_none Option.isSome_some Option.isSome_none imp_self rdP_flat rdP_row splice_one ints_set ints_get List.append_nil List.cons_append List.nil_append List.getElem?_toArray List.drop_zero ints_drop ints_take List.take_of_length_le splice_all ints_one Option.some.injEq Option.getD_some List.length_replicate zArr List.map_replicate rep_ints splice_intsR List.length_set List.length_append List.flatten_replicate_singleton rep_slice rep_string rep_bool rep_iface List.replicate_zero if_pos if_neg List.mapM_cons List.mapM_nil Option.pure_def Option.bind_eq_bind Option.bind_some Bool.true_eq_false Bool.not_false Bool.not_true get_concat set_concat
open Go.Proofs
open Go.Abs.H
open Go.Proofs.YtgmchiadphdlhaaDoor.Chk
set_option linter.unusedVariables false
set_option linter.unusedSimpArgs false
set_option maxRecDepth 100000
set_option maxHeartbeats 4000000
def t0 : Mom := ⟨⟨1970, 1, 1⟩, 0, 0, 0⟩
def t5 : Mom := ⟨⟨1970, 1, 1⟩, 0, 0, 5⟩
theorem t0_ok : t0.ok := by unfold Mom.ok Date.ok; decide
theorem t5_ok : t5.ok := by unfold Mom.ok Date.ok; decide
theorem t0_secs : secs t0 = 0 := by decide
theorem t5_secs : secs t5 = 5 := by decide
abbrev iB : ByteArray := ⟨#[105]⟩
abbrev aB : ByteArray := ⟨#[97]⟩
theorem ex_good : goodPg (nms (mk8 iB aB (strOf (txt t0)) (strOf (txt t5)) ++ [])) (txs (mk8 iB aB (strOf (txt t0)) (strOf (txt t5)) ++ [])) = 0 := by decide +kernel
theorem nms8 (a b c d e f g h : ByteArray) : nms [a, b, c, d, e, f, g, h] = [a, c, e, g] := by
  have hp : parts 8 = 4 := by decide
  unfold nms
  rw [show [a, b, c, d, e, f, g, h].length = 8 from rfl, hp]
  rfl
theorem txs8 (a b c d e f g h : ByteArray) : txs [a, b, c, d, e, f, g, h] = [b, d, f, h] := by
  have hp : parts 8 = 4 := by decide
  unfold txs
  rw [show [a, b, c, d, e, f, g, h].length = 8 from rfl, hp]
  rfl
theorem page2 (a b : ByteArray) : pageA (nms [a, b]) (txs [a, b]) = .agg [ivC 6, stA ⟨#[]⟩, .vsl 1 [stA a] none, .vsl 1 [ivC 4, stA b, nlA, nlA] none] := by
  have hp : parts 2 = 1 := by decide
  unfold nms txs
  rw [show [a, b].length = 2 from rfl, hp]
  rfl
theorem chkAll_cons (tx : ByteArray → ByteArray × Bool) (now : Int) (r : Rule3) (l : List Rule3) : chkAll tx now (r :: l) = if checkP tx now r = 0 then chkAll tx now l else checkP tx now r := rfl
theorem chk3 (tx : ByteArray → ByteArray × Bool) (now : Int) (name want s : ByteArray) (n : Int) (h : tx name = (s, true)) (hr : readP s = (n, 0)) : checkP tx now (3, name, want) = if now < n then 13 else 0 := by
  unfold checkP wrongP
  rw [h]
  simp only
  rw [hr]
  by_cases hn : now < n
  · simp [hn]
  · simp [hn]
theorem chk4 (tx : ByteArray → ByteArray × Bool) (now : Int) (name want s : ByteArray) (n : Int) (h : tx name = (s, true)) (hr : readP s = (n, 0)) : checkP tx now (4, name, want) = if n ≤ now then 14 else 0 := by
  unfold checkP wrongP
  rw [h]
  simp only
  rw [hr]
  by_cases hn : n ≤ now
  · simp [hn]
  · simp [hn]
theorem chk1 (tx : ByteArray → ByteArray × Bool) (now : Int) (name want s : ByteArray) (h : tx name = (s, true)) : checkP tx now (1, name, want) = if s = want then 0 else 15 := by
  unfold checkP wrongP
  rw [h]
  simp
theorem ex_chk : chkPg (nms (mk8 iB aB (strOf (txt t0)) (strOf (txt t5)) ++ [])) (txs (mk8 iB aB (strOf (txt t0)) (strOf (txt t5)) ++ [])) 5 (usualP iB aB) = 14 := by
  unfold chkPg
  rw [if_pos ex_good]
  have r0 := read_txt t0 t0_ok
  have r5 := read_txt t5 t5_ok
  rw [t0_secs] at r0
  rw [t5_secs] at r5
  obtain ⟨A, hA⟩ : ∃ A, strOf (txt t0) = A := ⟨_, rfl⟩
  obtain ⟨B, hB⟩ : ∃ A, strOf (txt t5) = A := ⟨_, rfl⟩
  rw [hA] at r0 ⊢
  rw [hB] at r5 ⊢
  have eN := nms8 issB iB audB aB nbfB A expB B
  have eX := txs8 issB iB audB aB nbfB A expB B
  rw [show mk8 iB aB A B ++ [] = [issB, iB, audB, aB, nbfB, A, expB, B] from rfl]
  rw [eN, eX]
  have i1 : idxK [issB, audB, nbfB, expB] issB 0 = 0 := by decide
  have i2 : idxK [issB, audB, nbfB, expB] audB 0 = 1 := by decide
  have i3 : idxK [issB, audB, nbfB, expB] nbfB 0 = 2 := by decide
  have i4 : idxK [issB, audB, nbfB, expB] expB 0 = 3 := by decide
  have x1 : txP [issB, audB, nbfB, expB] [iB, aB, A, B] issB = (iB, true) := by unfold txP; rw [i1]; rfl
  have x2 : txP [issB, audB, nbfB, expB] [iB, aB, A, B] audB = (aB, true) := by unfold txP; rw [i2]; rfl
  have x3 : txP [issB, audB, nbfB, expB] [iB, aB, A, B] nbfB = (A, true) := by unfold txP; rw [i3]; rfl
  have x4 : txP [issB, audB, nbfB, expB] [iB, aB, A, B] expB = (B, true) := by unfold txP; rw [i4]; rfl
  unfold usualP
  rw [chkAll_cons, chk1 _ _ _ _ _ x1, if_pos rfl, if_pos rfl, chkAll_cons, chk1 _ _ _ _ _ x2, if_pos rfl, if_pos rfl, chkAll_cons, chk3 _ _ _ _ _ _ x3 r0, if_neg (show ¬ (5 : Int) < 0 by decide), if_pos rfl, chkAll_cons, chk4 _ _ _ _ _ _ x4 r5]
  rfl
theorem ex_small : ∀ r ∈ usualP iB aB, r.1 ≠ 1 → r.1 ≠ 2 → (txP (nms (mk8 iB aB (strOf (txt t0)) (strOf (txt t5)) ++ [])) (txs (mk8 iB aB (strOf (txt t0)) (strOf (txt t5)) ++ [])) r.2.1).1.size ≤ 1000000 := by decide +kernel
theorem awake_p : PCall Tryd.prog glob 6 [] (.v (.bool true)) := by
  refine PCall.of ctx.nr nrs (NR.v _) ?_
  refine lcall6 (by simp) 0 (Nat.le_refl _) ?_
  unfold lc6
  refine I1 tt ⟨?_⟩
  have mp := (Make_p iB aB t0 t5 t0_ok t5_ok [] none (by decide) (by decide) (by decide) (fun _ h => absurd h List.not_mem_nil)).les (args := [stA iB, stA aB, ivC (secs t0), ivC (secs t5), .v (.slice none 0 0)]) ⟨AvLe.refl _, AvLe.refl _, AvLe.refl _, AvLe.refl _, AvLe.nil, trivial⟩
  rw [t0_secs, t5_secs] at mp
  unfold madeA at mp
  rw [if_pos ex_good] at mp
  have hsz : ∀ s ∈ mk8 iB aB (strOf (txt t0)) (strOf (txt t5)) ++ [], s.size ≤ 9223372036854775807 := by decide +kernel
  have hln : (nms (mk8 iB aB (strOf (txt t0)) (strOf (txt t5)) ++ [])).length ≤ 1000 := by decide +kernel
  have cp := CheckT_p (nms (mk8 iB aB (strOf (txt t0)) (strOf (txt t5)) ++ [])) (txs (mk8 iB aB (strOf (txt t0)) (strOf (txt t5)) ++ [])) (txs_len _) hln (fun s h => hsz s (nms_mem _ s h)) (fun s h => hsz s (txs_mem _ s h)) 5 (usualP iB aB) (by decide) ex_small (some 4)
  rw [ex_chk] at cp
  have up := Usual_p iB aB
  obtain ⟨N, hN⟩ : ∃ N, nms (mk8 iB aB (strOf (txt t0)) (strOf (txt t5)) ++ []) = N := ⟨_, rfl⟩
  obtain ⟨X, hX⟩ : ∃ N, txs (mk8 iB aB (strOf (txt t0)) (strOf (txt t5)) ++ []) = N := ⟨_, rfl⟩
  rw [hN, hX] at mp cp
  unfold pageA at mp cp
  have cp : PCall Tryd.prog glob 8 [.agg [ivC 6, stA ⟨#[]⟩, .vsl N.length (strs N) none, .vsl N.length (vals X) none], ivC 5, .vsl 4 (rulesA (usualP iB aB)) (some 4)] (ivC 14) := cp
  refine G1 F4 tt (an mp.go (an up.go (an cp.go tt))) tt tt ⟨?_⟩
  refine R1 tt ⟨?_⟩
  exact end0 (NR.v _) rfl
end Go.Abs.S
namespace Go.Abs
set_option linter.unusedVariables false
set_option linter.unusedSimpArgs false
abbrev bl (s : ByteArray) : List UInt8 := s.data.toList
def bs (l : List UInt8) : ByteArray := ⟨l.toArray⟩
@[go_sem] theorem bl_bs (l : List UInt8) : (bs l).data.toList = l := rfl
theorem bs_bl (s : ByteArray) : bs s.data.toList = s := rfl
@[go_sem] theorem bs_size (l : List UInt8) : (bs l).size = l.length := by simp [bs, ByteArray.size]
theorem bs_inj {l m : List UInt8} (h : bs l = bs m) : l = m := by
  have := congrArg (fun s : ByteArray => s.data.toList) h
  simpa [bs] using this
theorem ba_ext {s t : ByteArray} (h : s.data.toList = t.data.toList) : s = t := by
  rw [← bs_bl s, ← bs_bl t, h]
theorem bs_ext (l : List UInt8) (a b : Nat) : (bs l).extract a b = bs ((l.drop a).take (b - a)) := by
  refine ba_ext ?_
  rw [ByteArray.data_extract, bl_bs]
  simp [bs, List.extract_eq_take_drop]
theorem bs_from (l : List UInt8) (a : Nat) : (bs l).extract a l.length = bs (l.drop a) := by
  rw [bs_ext, List.take_of_length_le (by simp)]
theorem bs_to (l : List UInt8) (b : Nat) : (bs l).extract 0 b = bs (l.take b) := by rw [bs_ext]; rfl
@[go_sem] theorem bs_mid (l : List UInt8) (a b : Nat) : (bs l).extract a b = bs ((l.drop a).take (b - a)) := bs_ext l a b
@[go_sem] theorem take_rest (l : List UInt8) (a : Nat) : (l.drop a).take (l.length - a) = l.drop a := List.take_of_length_le (by simp)
@[go_sem] theorem bs_toList (l : List UInt8) : (bs l).toList = l := by rw [ByteArray.toList_eq]; rfl
theorem bs_append (l m : List UInt8) : bs l ++ bs m = bs (l ++ m) := by
  refine ba_ext ?_
  rw [ByteArray.data_append, bl_bs]
  simp [bs]
theorem bs_nil : (⟨#[]⟩ : ByteArray) = bs [] := rfl
@[go_sem] theorem sub_z (n : Nat) : n - 0 = n := rfl
theorem bs_eq_iff {l m : List UInt8} : bs l = bs m ↔ l = m := ⟨bs_inj, fun h => by rw [h]⟩
@[go_sem] theorem bs_same (l m : List UInt8) : (l == m) = decide (l = m) := by
  rw [Bool.eq_iff_iff, beq_iff_eq, decide_eq_true_eq]
end Go.Abs
namespace Go.Abs.S
attribute [local go_sem] lguard aopO aop aenv toAV tput aLoad aStore vcells aBin aNilI aUn aAlloc aBox aBuild aBSlice afill aConv isIntT aappZ aCap aArr aMM aMake aSlice bnd3 bnd aFldAddr aFld aIdxAddr aIdx aExt aLen aCopy aEq0 bAV aUb aapp aappQ agh acont List.getD_cons_zero List.getD_cons_succ List.set_cons_zero List.set_cons_succ List.getElem?_cons_zero List.getElem?_cons_succ List.length_cons List.length_nil List.map_cons List.map_nil ints_length if_true if_false Bool.false_eq_true true_and and_true eq_self ne_eq not_false_eq_true not_true_eq_false beq_self_eq_true Nat.zero_add Nat.add_zero Nat.mul_one Nat.zero_mul Int.toNat_natCast List.toList_toArray List.all_cons List.all_nil AV.one Value.oneCell' Bool.and_true Bool.true_and forall_const true_implies false_implies implies_true Option.map_some Option.map_none Option.isSome_some Option.isSome_none imp_self rdP_flat rdP_row splice_one ints_set ints_get List.append_nil List.cons_append List.nil_append List.getElem?_toArray List.drop_zero ints_drop ints_take List.take_of_length_le splice_all ints_one Option.some.injEq Option.getD_some List.length_replicate zArr List.map_replicate rep_ints splice_intsR List.length_set List.length_append List.flatten_replicate_singleton rep_slice rep_string rep_bool rep_iface List.replicate_zero if_pos if_neg List.mapM_cons List.mapM_nil Option.pure_def Option.bind_eq_bind Option.bind_some Bool.true_eq_false Bool.not_false Bool.not_true get_concat set_concat
open Go.Proofs
set_option linter.unusedVariables false
set_option linter.unusedSimpArgs false
set_option maxRecDepth 100000
set_option maxHeartbeats 4000000
theorem preB_iff (l p : List UInt8) (h : p.length ≤ l.length) : (l.take p.length = p) ↔ p.isPrefixOf l = true := by
  rw [List.isPrefixOf_iff_prefix, List.prefix_iff_eq_take]
  exact eq_comm
theorem lPre_p (l p : List UInt8) : PCall Tryd.prog glob 66 [.v (.string (bs l)), .v (.string (bs p))] (.v (.bool (p.isPrefixOf l))) := by
  refine PCall.of ctx.nr nrs (NR.v _) ?_
  refine lcall66 (by simp) 0 (Nat.le_refl _) ?_
  unfold lc66
  refine I1 tt ⟨?_⟩
  by_cases h : p.length ≤ l.length
  · have d1 : decide ((l.length : Int) ≥ p.length) = true := by rw [decide_eq_true_eq]; omega
    have q : decide (l.take p.length = p) = p.isPrefixOf l := by
      rw [Bool.eq_iff_iff, decide_eq_true_eq, preB_iff l p h]
    refine G1 F4 (an d1 (an q tt)) tt tt tt ⟨?_⟩
    refine R1 tt ⟨?_⟩
    exact end0 (NR.v _) rfl
  · have d1 : decide ((l.length : Int) ≥ p.length) = false := by rw [decide_eq_false_iff_not]; omega
    have q : p.isPrefixOf l = false := by
      rw [Bool.eq_false_iff, ne_eq, List.isPrefixOf_iff_prefix]
      exact fun h2 => h h2.length_le
    rw [q]
    refine G1 F4 (an d1 tt) tt tt tt ⟨?_⟩
    refine R1 tt ⟨?_⟩
    exact end0 (NR.v _) rfl
theorem pre_p (l p : List UInt8) : PCall Tryd.prog glob 50 [.v (.string (bs l)), .v (.string (bs p))] (.v (.bool (p.isPrefixOf l))) := by
  refine PCall.of ctx.nr nrs (NR.v _) ?_
  refine lcall50 (by simp) 0 (Nat.le_refl _) ?_
  unfold lc50
  refine I1 tt ⟨?_⟩
  refine G1 F1 tt (an (lPre_p l p).go tt) tt tt ⟨?_⟩
  refine R1 tt ⟨?_⟩
  exact end0 (NR.v _) rfl
end Go.Abs.S
namespace Go.Abs.S
open Go.Proofs
set_option maxRecDepth 100000
def impCodN : FuncId → Bool := fun f => f == 20 || f == 22 || f == 35 || f == 51 || f == 67
/-- escutcheon/page.digits -/
def lc68 : LCode := .seq (.reg []
  [o1 2 (.assign (.const (.int .i64 0)))]) (.seq (.reg []
  [o1 3 (.assign (.const (.int .i64 0)))]) (.seq (.block 0 (.loop (.seq (.seq (.reg []
  [o1 4 (.move (.tmp 3)),
  o1 5 (.move (.tmp 0)),
  o1 6 (.call ⟨.builtin .len, #[.tmp 5], #[9]⟩),
  o1 7 (.binOp .lss 3 (.tmp 4) (.tmp 6) 3),
  o1 8 (.move (.tmp 7)),
  o2 9 (.move (.tmp 0)) 8 true,
  o2 10 (.move (.tmp 3)) 8 true,
  o2 11 (.index 9 (.tmp 9) (.tmp 10)) 8 true,
  o2 12 (.binOp .geq 5 (.tmp 11) (.const (.int .u8 48)) 5) 8 true,
  o1 13 (.pick (.tmp 8) (.tmp 12) (.const (.bool false))),
  o1 14 (.move (.tmp 13)),
  o2 15 (.move (.tmp 0)) 14 true,
  o2 16 (.move (.tmp 3)) 14 true,
  o2 17 (.index 9 (.tmp 15) (.tmp 16)) 14 true,
  o2 18 (.binOp .leq 5 (.tmp 17) (.const (.int .u8 57)) 5) 14 true,
  o1 19 (.pick (.tmp 14) (.tmp 18) (.const (.bool false)))]) (.cond (.tmp 19) (.skip) (.exit 0))) (.block 1 (.reg []
  [o1 20 (.move (.tmp 3)),
  o1 21 (.binOp .add 3 (.tmp 20) (.const (.int .i64 1)) 3),
  o1 3 (.assign (.tmp 21))]))))) (.seq (.reg []
  [o1 22 (.move (.tmp 3)),
  o1 2 (.assign (.tmp 22))]) (.ret))))
def ms68_0 : List Nat := [1, 3, 4, 5, 6, 7, 8, 9, 10, 11, 12, 13, 14, 15, 16, 17, 18, 19, 20, 21]
theorem ls68 : Tryd.f68.body.map (strip Tryd.prog impCodN) = some lc68 := by kernel_rfl
theorem lcall68 : LC 68 23 lc68 [.tmp 2] := LC.of Tryd.func68 (by kernel_rfl) ls68 (by kernel_rfl) (by kernel_rfl)
/-- escutcheon/page.number -/
def lc53 : LCode := .seq (.reg []
  [o1 2 (.assign (.const (.int .i64 0)))]) (.seq (.reg []
  [o1 3 (.assign (.const (.int .i64 0)))]) (.seq (.seq (.reg []
  [o1 6 (.move (.tmp 0)),
  o1 7 (.call ⟨.value (.func 50), #[.tmp 6, .const (.string { data := #[45] })], #[9, 9]⟩)]) (.cond (.tmp 7) (.reg []
  [o1 3 (.assign (.const (.int .i64 1)))]) (.skip))) (.seq (.reg []
  [o1 8 (.move (.tmp 0)),
  o1 9 (.move (.tmp 3)),
  o1 10 (.slice 9 (.tmp 8) (some (.tmp 9)) none none),
  o1 11 (.call ⟨.value (.func 68), #[.tmp 10], #[9]⟩),
  o1 4 (.assign (.tmp 11))]) (.seq (.seq (.reg []
  [o1 12 (.move (.tmp 4)),
  o1 13 (.binOp .eql 3 (.tmp 12) (.const (.int .i64 0)) 3),
  o1 14 (.move (.tmp 13)),
  o2 15 (.move (.tmp 4)) 14 false,
  o2 16 (.binOp .gtr 3 (.tmp 15) (.const (.int .i64 1)) 3) 14 false,
  o2 17 (.move (.tmp 16)) 14 false,
  o2 18 (.move (.tmp 0)) 17 true,
  o2 19 (.move (.tmp 3)) 17 true,
  o2 20 (.index 9 (.tmp 18) (.tmp 19)) 17 true,
  o2 21 (.binOp .eql 5 (.tmp 20) (.const (.int .u8 48)) 5) 17 true,
  o2 22 (.pick (.tmp 17) (.tmp 21) (.const (.bool false))) 14 false,
  o1 23 (.pick (.tmp 14) (.const (.bool true)) (.tmp 22))]) (.cond (.tmp 23) (.reg []
  [o1 24 (.move (.tmp 4)),
  o1 25 (.call ⟨.builtin .min, #[.tmp 24, .const (.int .i64 1)], #[3, 3]⟩),
  o1 4 (.assign (.tmp 25))]) (.skip))) (.seq (.seq (.reg []
  [o1 26 (.move (.tmp 4)),
  o1 27 (.binOp .eql 3 (.tmp 26) (.const (.int .i64 0)) 3)]) (.cond (.tmp 27) (.seq (.reg []
  [o1 2 (.assign (.const (.int .i64 0)))]) (.ret)) (.skip))) (.seq (.reg []
  [o1 28 (.move (.tmp 3)),
  o1 29 (.move (.tmp 4)),
  o1 30 (.binOp .add 3 (.tmp 28) (.tmp 29) 3),
  o1 3 (.assign (.tmp 30))]) (.seq (.seq (.reg []
  [o1 31 (.move (.tmp 3)),
  o1 32 (.move (.tmp 0)),
  o1 33 (.call ⟨.builtin .len, #[.tmp 32], #[9]⟩),
  o1 34 (.binOp .lss 3 (.tmp 31) (.tmp 33) 3),
  o1 35 (.move (.tmp 34)),
  o2 36 (.move (.tmp 0)) 35 true,
  o2 37 (.move (.tmp 3)) 35 true,
  o2 38 (.index 9 (.tmp 36) (.tmp 37)) 35 true,
  o2 39 (.binOp .eql 5 (.tmp 38) (.const (.int .u8 46)) 5) 35 true,
  o1 40 (.pick (.tmp 35) (.tmp 39) (.const (.bool false)))]) (.cond (.tmp 40) (.seq (.seq (.reg []
  [o1 41 (.move (.tmp 0)),
  o1 42 (.move (.tmp 3)),
  o1 43 (.binOp .add 3 (.tmp 42) (.const (.int .i64 1)) 3),
  o1 44 (.slice 9 (.tmp 41) (some (.tmp 43)) none none),
  o1 45 (.call ⟨.value (.func 68), #[.tmp 44], #[9]⟩),
  o1 4 (.assign (.tmp 45))]) (.seq (.reg []
  [o1 46 (.move (.tmp 4)),
  o1 47 (.binOp .eql 3 (.tmp 46) (.const (.int .i64 0)) 3)]) (.cond (.tmp 47) (.seq (.reg []
  [o1 2 (.assign (.const (.int .i64 0)))]) (.ret)) (.skip)))) (.reg []
  [o1 48 (.move (.tmp 3)),
  o1 49 (.move (.tmp 4)),
  o1 50 (.binOp .add 3 (.const (.int .i64 1)) (.tmp 49) 3),
  o1 51 (.binOp .add 3 (.tmp 48) (.tmp 50) 3),
  o1 3 (.assign (.tmp 51))])) (.skip))) (.seq (.seq (.reg []
  [o1 52 (.move (.tmp 3)),
  o1 53 (.move (.tmp 0)),
  o1 54 (.call ⟨.builtin .len, #[.tmp 53], #[9]⟩),
  o1 55 (.binOp .lss 3 (.tmp 52) (.tmp 54) 3),
  o1 56 (.move (.tmp 55)),
  o2 57 (.move (.tmp 0)) 56 true,
  o2 58 (.move (.tmp 3)) 56 true,
  o2 59 (.index 9 (.tmp 57) (.tmp 58)) 56 true,
  o2 60 (.binOp .or 5 (.tmp 59) (.const (.int .u8 32)) 5) 56 true,
  o2 61 (.binOp .eql 5 (.tmp 60) (.const (.int .u8 101)) 5) 56 true,
  o1 62 (.pick (.tmp 56) (.tmp 61) (.const (.bool false)))]) (.cond (.tmp 62) (.seq (.reg []
  [o1 63 (.move (.tmp 3)),
  o1 64 (.binOp .add 3 (.tmp 63) (.const (.int .i64 1)) 3),
  o1 5 (.assign (.tmp 64))]) (.seq (.seq (.reg []
  [o1 65 (.move (.tmp 5)),
  o1 66 (.move (.tmp 0)),
  o1 67 (.call ⟨.builtin .len, #[.tmp 66], #[9]⟩),
  o1 68 (.binOp .lss 3 (.tmp 65) (.tmp 67) 3),
  o1 69 (.move (.tmp 68)),
  o2 70 (.move (.tmp 0)) 69 true,
  o2 71 (.move (.tmp 5)) 69 true,
  o2 72 (.index 9 (.tmp 70) (.tmp 71)) 69 true,
  o2 73 (.binOp .eql 5 (.tmp 72) (.const (.int .u8 43)) 5) 69 true,
  o2 74 (.move (.tmp 73)) 69 true,
  o2 75 (.move (.tmp 0)) 74 false,
  o2 76 (.move (.tmp 5)) 74 false,
  o2 77 (.index 9 (.tmp 75) (.tmp 76)) 74 false,
  o2 78 (.binOp .eql 5 (.tmp 77) (.const (.int .u8 45)) 5) 74 false,
  o2 79 (.pick (.tmp 74) (.const (.bool true)) (.tmp 78)) 69 true,
  o1 80 (.pick (.tmp 69) (.tmp 79) (.const (.bool false)))]) (.cond (.tmp 80) (.reg []
  [o1 81 (.move (.tmp 5)),
  o1 82 (.binOp .add 3 (.tmp 81) (.const (.int .i64 1)) 3),
  o1 5 (.assign (.tmp 82))]) (.skip))) (.seq (.seq (.reg []
  [o1 83 (.move (.tmp 0)),
  o1 84 (.move (.tmp 5)),
  o1 85 (.slice 9 (.tmp 83) (some (.tmp 84)) none none),
  o1 86 (.call ⟨.value (.func 68), #[.tmp 85], #[9]⟩),
  o1 4 (.assign (.tmp 86))]) (.seq (.reg []
  [o1 87 (.move (.tmp 4)),
  o1 88 (.binOp .eql 3 (.tmp 87) (.const (.int .i64 0)) 3)]) (.cond (.tmp 88) (.seq (.reg []
  [o1 2 (.assign (.const (.int .i64 0)))]) (.ret)) (.skip)))) (.reg []
  [o1 89 (.move (.tmp 5)),
  o1 90 (.move (.tmp 4)),
  o1 91 (.binOp .add 3 (.tmp 89) (.tmp 90) 3),
  o1 3 (.assign (.tmp 91))])))) (.skip))) (.seq (.reg []
  [o1 92 (.move (.tmp 3)),
  o1 2 (.assign (.tmp 92))]) (.ret))))))))))
def mj53_0 : List Nat := [1, 3, 6, 7]
def mj53_1 : List Nat := [1, 4, 6, 7, 8, 9, 10, 11, 12, 13, 14, 15, 16, 17, 18, 19, 20, 21, 22, 23, 24, 25]
def mj53_2 : List Nat := [1, 2, 6, 7, 8, 9, 10, 11, 12, 13, 14, 15, 16, 17, 18, 19, 20, 21, 22, 23, 24, 25, 26, 27]
def mj53_3 : List Nat := [1, 2, 3, 4, 6, 7, 8, 9, 10, 11, 12, 13, 14, 15, 16, 17, 18, 19, 20, 21, 22, 23, 24, 25, 26, 27, 28, 29, 30, 31, 32, 33, 34, 35, 36, 37, 38, 39, 40, 41, 42, 43, 44, 45, 46, 47, 48, 49, 50, 51]
def mj53_4 : List Nat := [1, 2, 6, 7, 8, 9, 10, 11, 12, 13, 14, 15, 16, 17, 18, 19, 20, 21, 22, 23, 24, 25, 26, 27, 28, 29, 30, 31, 32, 33, 34, 35, 36, 37, 38, 39, 40, 41, 42, 43, 44, 45, 46, 47]
def mj53_5 : List Nat := [0, 1, 2, 3, 4, 5, 6, 7, 8, 9, 10, 11, 12, 13, 14, 15, 16, 17, 18, 19, 20, 21, 22, 23, 24, 25, 26, 27, 28, 29, 30, 31, 32, 33, 34, 35, 36, 37, 38, 39, 40, 41, 42, 43, 44, 45, 46, 47, 48, 49, 50, 51, 52, 53, 54, 55, 56, 57, 58, 59, 60, 61, 62, 63, 64, 65, 66, 67, 68, 69, 70, 71, 72, 73, 74, 75, 76, 77, 78, 79, 80, 81, 82, 83, 84, 85, 86, 87, 88, 89, 90, 91]
def mj53_6 : List Nat := [1, 5, 6, 7, 8, 9, 10, 11, 12, 13, 14, 15, 16, 17, 18, 19, 20, 21, 22, 23, 24, 25, 26, 27, 28, 29, 30, 31, 32, 33, 34, 35, 36, 37, 38, 39, 40, 41, 42, 43, 44, 45, 46, 47, 48, 49, 50, 51, 52, 53, 54, 55, 56, 57, 58, 59, 60, 61, 62, 63, 64, 65, 66, 67, 68, 69, 70, 71, 72, 73, 74, 75, 76, 77, 78, 79, 80, 81, 82]
def mj53_7 : List Nat := [0, 1, 2, 6, 7, 8, 9, 10, 11, 12, 13, 14, 15, 16, 17, 18, 19, 20, 21, 22, 23, 24, 25, 26, 27, 28, 29, 30, 31, 32, 33, 34, 35, 36, 37, 38, 39, 40, 41, 42, 43, 44, 45, 46, 47, 48, 49, 50, 51, 52, 53, 54, 55, 56, 57, 58, 59, 60, 61, 62, 63, 64, 65, 66, 67, 68, 69, 70, 71, 72, 73, 74, 75, 76, 77, 78, 79, 80, 81, 82, 83, 84, 85, 86, 87, 88]
theorem ls53 : Tryd.f53.body.map (strip Tryd.prog impCodN) = some lc53 := by kernel_rfl
theorem lcall53 : LC 53 93 lc53 [.tmp 2] := LC.of Tryd.func53 (by kernel_rfl) ls53 (by kernel_rfl) (by kernel_rfl)
end Go.Abs.S
namespace Go.Abs.S
attribute [local go_sem] lguard aopO aop aenv toAV tput aLoad aStore vcells aBin aNilI aUn aAlloc aBox aBuild aBSlice afill aConv isIntT aappZ aCap aArr aMM aMake aSlice bnd3 bnd aFldAddr aFld aIdxAddr aIdx aExt aLen aCopy aEq0 bAV aUb aapp aappQ agh acont List.getD_cons_zero List.getD_cons_succ List.set_cons_zero List.set_cons_succ List.getElem?_cons_zero List.getElem?_cons_succ List.length_cons List.length_nil List.map_cons List.map_nil ints_length if_true if_false Bool.false_eq_true true_and and_true eq_self ne_eq not_false_eq_true not_true_eq_false beq_self_eq_true Nat.zero_add Nat.add_zero Nat.mul_one Nat.zero_mul Int.toNat_natCast List.toList_toArray List.all_cons List.all_nil AV.one Value.oneCell' Bool.and_true Bool.true_and forall_const true_implies false_implies implies_true Option.map_some Option.map_none Option.isSome_some Option.isSome_none imp_self rdP_flat rdP_row splice_one ints_set ints_get List.append_nil List.cons_append List.nil_append List.getElem?_toArray List.drop_zero ints_drop ints_take List.take_of_length_le splice_all ints_one Option.some.injEq Option.getD_some List.length_replicate zArr List.map_replicate rep_ints splice_intsR List.length_set List.length_append List.flatten_replicate_singleton rep_slice rep_string rep_bool rep_iface List.replicate_zero if_pos if_neg List.mapM_cons List.mapM_nil Option.pure_def Option.bind_eq_bind Option.bind_some Bool.true_eq_false Bool.not_false Bool.not_true get_concat set_concat
open Go.Proofs
set_option linter.unusedVariables false
set_option linter.unusedSimpArgs false
set_option maxRecDepth 100000
set_option maxHeartbeats 4000000
def isD (c : UInt8) : Bool := decide ((c.toNat : Int) ≥ 48) && decide ((c.toNat : Int) ≤ 57)
/-- How many digits stand at a row's beginning. -/
def dgL : List UInt8 → Nat
  | [] => 0
  | c :: l => if isD c = true then dgL l + 1 else 0
theorem dgL_le : ∀ l : List UInt8, dgL l ≤ l.length
  | [] => Nat.le_refl _
  | c :: l => by
    have := dgL_le l
    rw [dgL, List.length_cons]
    split <;> omega
theorem dgL_step (l : List UInt8) (k : Nat) (h : k < l.length) : dgL (l.drop k) = if isD (l.getD k 0) = true then dgL (l.drop (k + 1)) + 1 else 0 := by
  rw [List.drop_eq_getElem_cons h, dgL, List.getD_eq_getElem?_getD, List.getElem?_eq_getElem h]
  rfl
theorem pdig_p (l : List UInt8) (hl : l.length ≤ 9223372036854775807) : PCall Tryd.prog glob 68 [.v (.string (bs l))] (.v (.int .i64 (dgL l))) := by
  refine PCall.of ctx.nr nrs (NR.v _) ?_
  refine lcall68 (by simp) 0 (Nat.le_refl _) ?_
  unfold lc68
  refine I1 tt ⟨?_⟩
  obtain ⟨V, hV⟩ : ∃ V, dgL l = V := ⟨_, rfl⟩
  rw [hV]
  refine G1 F4 tt tt tt tt ⟨?_⟩
  refine lavc_loopM ms68_0 (fun m (k : Nat) => m + k = l.length ∧ k + dgL (l.drop k) = V) (fun k => [(3, .v (.int .i64 k))]) (fun _ => []) l.length 0 ⟨by omega, by rw [List.drop_zero]; omega⟩ ?_ rfl ?_
  · try unfold ms68_0
    refine A1 tt ⟨?_⟩
    rfl
  rintro m k ⟨hk, hi⟩
  try unfold ms68_0
  refine M1 tt ⟨?_⟩
  by_cases hkl : k < l.length
  · rw [dgL_step l k hkl] at hi
    obtain ⟨c, hc⟩ : ∃ c, l.getD k 0 = c := ⟨_, rfl⟩
    rw [hc] at hi
    have d1 : decide ((k : Int) < l.length) = true := by rw [decide_eq_true_eq]; omega
    have e3 := i64n ((k : Int) + 1) (k + 1) (by omega) (by omega)
    obtain ⟨a, ha⟩ : ∃ a, decide ((c.toNat : Int) ≥ 48) = a := ⟨_, rfl⟩
    obtain ⟨b, hb⟩ : ∃ b, decide ((c.toNat : Int) ≤ 57) = b := ⟨_, rfl⟩
    have hD : isD c = (a && b) := by rw [← ha, ← hb]; rfl
    rw [hD] at hi
    cases a <;> cases b
    · rw [if_neg (by decide)] at hi
      refine G1 F4 (an d1 (an hc (an ha (an hb tt)))) tt tt tt ⟨?_⟩
      refine R1 tt ⟨?_⟩
      exact end0 (NR.v _) (by rw [← hi]; rfl)
    · rw [if_neg (by decide)] at hi
      refine G1 F4 (an d1 (an hc (an ha (an hb tt)))) tt tt tt ⟨?_⟩
      refine R1 tt ⟨?_⟩
      exact end0 (NR.v _) (by rw [← hi]; rfl)
    · rw [if_neg (by decide)] at hi
      refine G1 F4 (an d1 (an hc (an ha (an hb tt)))) tt tt tt ⟨?_⟩
      refine R1 tt ⟨?_⟩
      exact end0 (NR.v _) (by rw [← hi]; rfl)
    · rw [if_pos (by decide)] at hi
      refine G1 F4 (an d1 (an hc (an ha (an hb (an e3 tt))))) tt tt tt ⟨?_⟩
      refine ⟨m - 1, k + 1, by omega, ⟨by omega, by omega⟩, ?_, (by first | rfl | trivial)⟩
      try unfold ms68_0
      exact A0 tt
  · have hk2 : k = l.length := by omega
    rw [hk2, List.drop_length, dgL] at hi
    have d1 : decide ((k : Int) < l.length) = false := by rw [decide_eq_false_iff_not]; omega
    refine G1 F4 (an d1 tt) tt tt tt ⟨?_⟩
    refine R1 tt ⟨?_⟩
    exact end0 (NR.v _) (by rw [← hi, hk2]; rfl)
/-- The sign's, the whole part's length; the places behind the broken part and behind the power. -/
def sgL (l : List UInt8) : Nat := if [45].isPrefixOf l = true then 1 else 0
def intL (l : List UInt8) (at' : Nat) : Nat := if 1 < dgL (l.drop at') ∧ (l.getD at' 0).toNat = 48 then 1 else dgL (l.drop at')
def fracL (l : List UInt8) (a : Nat) : Option Nat := if a < l.length ∧ (l.getD a 0).toNat = 46 then (if dgL (l.drop (a + 1)) = 0 then none else some (a + (1 + dgL (l.drop (a + 1))))) else some a
def powS (l : List UInt8) (k : Nat) : Nat := if k < l.length ∧ ((l.getD k 0).toNat = 43 ∨ (l.getD k 0).toNat = 45) then k + 1 else k
def powL (l : List UInt8) (a : Nat) : Option Nat := if a < l.length ∧ ((l.getD a 0).toNat = 101 ∨ (l.getD a 0).toNat = 69) then (if dgL (l.drop (powS l (a + 1))) = 0 then none else some (powS l (a + 1) + dgL (l.drop (powS l (a + 1))))) else some a
/-- How many bytes the number at a row's beginning has; 0: there is none. -/
def nuL (l : List UInt8) : Nat := if intL l (sgL l) = 0 then 0 else ((fracL l (sgL l + intL l (sgL l))).bind (powL l)).getD 0
theorem sgL_le (l : List UInt8) : sgL l ≤ l.length := by
  unfold sgL
  split
  · rename_i h
    rw [List.isPrefixOf_iff_prefix] at h
    exact h.length_le
  · exact Nat.zero_le _
theorem dgd_le (l : List UInt8) (a : Nat) (h : a ≤ l.length) : a + dgL (l.drop a) ≤ l.length := by
  have := dgL_le (l.drop a)
  rw [List.length_drop] at this
  omega
theorem intL_le (l : List UInt8) (a : Nat) (h : a ≤ l.length) : a + intL l a ≤ l.length := by
  have := dgd_le l a h
  unfold intL
  split <;> omega
theorem powS_le (l : List UInt8) (k : Nat) (h : k ≤ l.length) : powS l k ≤ l.length := by
  unfold powS
  split <;> omega
theorem fracL_le (l : List UInt8) (a b : Nat) (h : a ≤ l.length) (hb : fracL l a = some b) : b ≤ l.length := by
  unfold fracL at hb
  split at hb
  · split at hb
    · cases hb
    · have := dgd_le l (a + 1) (by omega)
      injection hb
      omega
  · injection hb
    omega
theorem powL_le (l : List UInt8) (a b : Nat) (h : a ≤ l.length) (hb : powL l a = some b) : b ≤ l.length := by
  unfold powL at hb
  split at hb
  · split at hb
    · cases hb
    · have := dgd_le l _ (powS_le l (a + 1) (by omega))
      injection hb
      omega
  · injection hb
    omega
theorem or32 : ∀ c : Nat, c < 256 → (ibits .or .u8 (c : Int) 32 == 101) = (decide (c = 101) || decide (c = 69)) := by decide +kernel
theorem pnum_p (l : List UInt8) (hl : l.length ≤ 9223372036854775000) : PCall Tryd.prog glob 53 [.v (.string (bs l))] (.v (.int .i64 (nuL l))) := by
  refine PCall.of ctx.nr nrs (NR.v _) ?_
  refine lcall53 (by simp) 0 (Nat.le_refl _) ?_
  unfold lc53
  refine I1 tt ⟨?_⟩
  have hp : PCall Tryd.prog glob 50 [.v (.string (bs l)), .v (.string ⟨#[45]⟩)] (.v (.bool ([45].isPrefixOf l))) := pre_p l [45]
  obtain ⟨sg, hsg⟩ : ∃ b, ([45] : List UInt8).isPrefixOf l = b := ⟨_, rfl⟩
  have hs2 := sgL_le l
  have hs3 : sgL l = if sg = true then 1 else 0 := by rw [← hsg]; rfl
  rw [hsg] at hp
  refine G1 F1 tt (an hp.go tt) tt tt ⟨?_⟩
  refine lavc_join mj53_0 (fun (_ : Unit) => True) (fun _ => [(3, .v (.int .i64 (sgL l)))]) (fun _ => []) ?_ ?_
  · cases sg
    · rw [hs3]
      refine G1 F4 tt tt tt tt ⟨?_⟩
      refine ⟨(), trivial, ?_, (by first | rfl | trivial)⟩
      try unfold mj53_0
      refine A1 tt ⟨?_⟩
      rfl
    · rw [hs3]
      refine G1 F4 tt tt tt tt ⟨?_⟩
      refine ⟨(), trivial, ?_, (by first | rfl | trivial)⟩
      try unfold mj53_0
      refine A1 tt ⟨?_⟩
      rfl
  intro _ _
  try unfold mj53_0
  refine M1 tt ⟨?_⟩
  unfold nuL
  obtain ⟨a, ha⟩ : ∃ a, sgL l = a := ⟨_, rfl⟩
  rw [ha] at hs2 ⊢
  have dp : ∀ k, PCall Tryd.prog glob 68 [.v (.string (bs (l.drop k)))] (.v (.int .i64 (dgL (l.drop k)))) := fun k => pdig_p _ (by rw [List.length_drop]; omega)
  have i1 := intL_le l a hs2
  have i2 := dgd_le l a hs2
  have hal : ((a : Nat) : Int) ≤ l.length := by omega
  obtain ⟨n, hn⟩ : ∃ n, dgL (l.drop a) = n := ⟨_, rfl⟩
  rw [hn] at i2
  have da : PCall Tryd.prog glob 68 [.v (.string (bs (l.drop a)))] (.v (.int .i64 n)) := by rw [← hn]; exact dp a
  have hi : intL l a = if 1 < n ∧ (l.getD a 0).toNat = 48 then 1 else n := by rw [← hn]; rfl
  obtain ⟨c, hc⟩ : ∃ c, l.getD a 0 = c := ⟨_, rfl⟩
  rw [hc] at hi
  refine lavc_seq (lavc_reg ?_)
  refine G1 F6 tt (an da.go tt) tt tt ⟨?_⟩
  refine lavc_joinS (mj53_1 ++ [12, 13, 14, 15, 16, 17, 18, 19, 20, 21, 22, 23]) (fun (_ : Unit) => True) (fun _ => [(3, .v (.int .i64 a)), (4, .v (.int .i64 (intL l a)))]) (fun _ => []) ?_ ?_
  --53_1 (fun (_ : Unit) => True) (fun _ => [(3, .v (.int .i64 a)), (4, .v (.int .i64 (intL l a)))]) (fun _ => []) ?_ ?_
  · by_cases h0 : n = 0
    · subst h0
      rw [hi, if_neg (by omega)]
      refine G1 F4 tt tt tt tt ⟨?_⟩
      refine ⟨(), trivial, ?_, (by first | rfl | trivial)⟩
      refine ALe.mk ?_
      simp only [mj53_1, putAll, blank, List.foldl_cons, List.foldl_nil, List.set_cons_succ, List.set_cons_zero, List.cons_append, List.nil_append, ALe0, true_or, or_true, and_true, true_and, eq_self, reduceCtorEq, false_or, List.foldl_append]
      try rfl
    by_cases h1 : n = 1
    · subst h1
      rw [hi, if_neg (by omega)]
      refine G1 F4 tt tt tt tt ⟨?_⟩
      refine ⟨(), trivial, ?_, (by first | rfl | trivial)⟩
      refine ALe.mk ?_
      simp only [mj53_1, putAll, blank, List.foldl_cons, List.foldl_nil, List.set_cons_succ, List.set_cons_zero, List.cons_append, List.nil_append, ALe0, true_or, or_true, and_true, true_and, eq_self, reduceCtorEq, false_or, List.foldl_append]
      try rfl
    have q0 : ((n : Int) == 0) = false := by rw [beq_eq_false_iff_ne, ne_eq]; omega
    have d1 : decide ((n : Int) > 1) = true := by rw [decide_eq_true_eq]; omega
    by_cases h48 : c.toNat = 48
    · rw [hi, if_pos ⟨by omega, h48⟩]
      have q1 : (((c.toNat : Nat) : Int) == 48) = true := by rw [h48]; rfl
      have q2 : min (n : Int) 1 = 1 := by omega
      refine G1 F4 (an q0 (an d1 (an hc (an q1 (an q2 tt))))) tt tt tt ⟨?_⟩
      refine ⟨(), trivial, ?_, (by first | rfl | trivial)⟩
      refine ALe.mk ?_
      simp only [mj53_1, putAll, blank, List.foldl_cons, List.foldl_nil, List.set_cons_succ, List.set_cons_zero, List.cons_append, List.nil_append, ALe0, true_or, or_true, and_true, true_and, eq_self, reduceCtorEq, false_or, List.foldl_append]
      try rfl
    · rw [hi, if_neg (fun h => h48 h.2)]
      have q1 : (((c.toNat : Int) : Int) == 48) = false := by rw [beq_eq_false_iff_ne, ne_eq]; omega
      refine G1 F4 (an q0 (an d1 (an hc (an q1 tt)))) tt tt tt ⟨?_⟩
      refine ⟨(), trivial, ?_, (by first | rfl | trivial)⟩
      refine ALe.mk ?_
      simp only [mj53_1, putAll, blank, List.foldl_cons, List.foldl_nil, List.set_cons_succ, List.set_cons_zero, List.cons_append, List.nil_append, ALe0, true_or, or_true, and_true, true_and, eq_self, reduceCtorEq, false_or, List.foldl_append]
      try rfl
  intro _ _
  try unfold mj53_1
  refine M1 tt ⟨?_⟩
  obtain ⟨n, hn⟩ : ∃ n, intL l a = n := ⟨_, rfl⟩
  rw [hn] at i1 ⊢
  by_cases h0 : n = 0
  · subst h0
    rw [if_pos rfl]
    refine G1 F4 tt tt tt tt ⟨?_⟩
    refine R1 tt ⟨?_⟩
    exact end0 (NR.v _) rfl
  rw [if_neg h0]
  have q0 : ((n : Int) == 0) = false := by rw [beq_eq_false_iff_ne, ne_eq]; omega
  have e3 := i64n ((a : Int) + n) (a + n) (by omega) (by omega)
  obtain ⟨b, hb⟩ : ∃ b, a + n = b := ⟨_, rfl⟩
  rw [hb] at e3 i1 ⊢
  refine lavc_seq ?_
  refine lavc_seq (lavc_reg ?_)
  refine G1 F7 (an q0 tt) tt tt tt ⟨?_⟩
  refine lavc_seq (lavc_reg ?_)
  refine G1 F6 (an e3 tt) tt tt tt ⟨?_⟩
  refine lavc_joinS (mj53_3 ++ [31, 32, 33, 34, 35, 36, 37, 38, 39, 40]) (fun (x : Nat) => fracL l b = some x) (fun x => [(3, .v (.int .i64 x))]) (fun _ => []) ?_ ?_
  · obtain ⟨c, hc⟩ : ∃ c, l.getD b 0 = c := ⟨_, rfl⟩
    have hf : fracL l b = if b < l.length ∧ c.toNat = 46 then (if dgL (l.drop (b + 1)) = 0 then none else some (b + (1 + dgL (l.drop (b + 1))))) else some b := by rw [← hc]; rfl
    by_cases hbl : b < l.length
    · have d1 : decide ((b : Int) < l.length) = true := by rw [decide_eq_true_eq]; omega
      by_cases h46 : c.toNat = 46
      · rw [if_pos ⟨hbl, h46⟩] at hf
        have q1 : (((c.toNat : Nat) : Int) == 46) = true := by rw [h46]; rfl
        have i4 := dgd_le l (b + 1) (by omega)
        obtain ⟨n2, hn2⟩ : ∃ n, dgL (l.drop (b + 1)) = n := ⟨_, rfl⟩
        rw [hn2] at hf i4
        have da : PCall Tryd.prog glob 68 [.v (.string (bs (l.drop (b + 1))))] (.v (.int .i64 n2)) := by rw [← hn2]; exact dp _
        have e5 := i64n ((b : Int) + 1) (b + 1) (by omega) (by omega)
        by_cases h20 : n2 = 0
        · rw [if_pos h20] at hf
          subst h20
          rw [hf]
          refine G1 F4 (an d1 (an hc (an q1 (an e5 tt)))) (an da.go tt) tt tt ⟨?_⟩
          refine R1 tt ⟨?_⟩
          exact end0 (NR.v _) rfl
        · rw [if_neg h20] at hf
          have q2 : ((n2 : Int) == 0) = false := by rw [beq_eq_false_iff_ne, ne_eq]; omega
          have e6 := i64n ((1 : Int) + n2) (1 + n2) (by omega) (by omega)
          have e7 := i64n ((b : Int) + ((1 + n2 : Nat) : Int)) (b + (1 + n2)) (by omega) (by omega)
          refine G1 F4 (an d1 (an hc (an q1 (an q2 (an e5 (an e6 (an e7 tt))))))) (an da.go tt) tt tt ⟨?_⟩
          refine ⟨_, hf, ?_, (by first | rfl | trivial)⟩
          refine ALe.mk ?_
          simp only [mj53_3, putAll, blank, List.foldl_cons, List.foldl_nil, List.set_cons_succ, List.set_cons_zero, List.cons_append, List.nil_append, ALe0, true_or, or_true, and_true, true_and, eq_self, reduceCtorEq, false_or, List.foldl_append]
          try rfl
      · rw [if_neg (fun h => h46 h.2)] at hf
        have q1 : (((c.toNat : Int) : Int) == 46) = false := by rw [beq_eq_false_iff_ne, ne_eq]; omega
        refine G1 F4 (an d1 (an hc (an q1 tt))) tt tt tt ⟨?_⟩
        refine ⟨_, hf, ?_, (by first | rfl | trivial)⟩
        refine ALe.mk ?_
        simp only [mj53_3, putAll, blank, List.foldl_cons, List.foldl_nil, List.set_cons_succ, List.set_cons_zero, List.cons_append, List.nil_append, ALe0, true_or, or_true, and_true, true_and, eq_self, reduceCtorEq, false_or, List.foldl_append]
        try rfl
    · rw [if_neg (fun h => hbl h.1)] at hf
      have d1 : decide ((b : Int) < l.length) = false := by rw [decide_eq_false_iff_not]; omega
      refine G1 F4 (an d1 tt) tt tt tt ⟨?_⟩
      refine ⟨_, hf, ?_, (by first | rfl | trivial)⟩
      refine ALe.mk ?_
      simp only [mj53_3, putAll, blank, List.foldl_cons, List.foldl_nil, List.set_cons_succ, List.set_cons_zero, List.cons_append, List.nil_append, ALe0, true_or, or_true, and_true, true_and, eq_self, reduceCtorEq, false_or, List.foldl_append]
      try rfl
  intro b2 hb2
  have i3 := fracL_le l b b2 (by omega) hb2
  rw [hb2]
  try unfold mj53_3
  refine M1 tt ⟨?_⟩
  show lavc _ _ _ _ _ _
  obtain ⟨c, hc⟩ : ∃ c, l.getD b2 0 = c := ⟨_, rfl⟩
  have hf : powL l b2 = if b2 < l.length ∧ (c.toNat = 101 ∨ c.toNat = 69) then (if dgL (l.drop (powS l (b2 + 1))) = 0 then none else some (powS l (b2 + 1) + dgL (l.drop (powS l (b2 + 1))))) else some b2 := by rw [← hc]; rfl
  have o32 := or32 c.toNat c.toNat_lt
  rw [Option.bind_some]
  by_cases hbl : b2 < l.length
  · have d1 : decide ((b2 : Int) < l.length) = true := by rw [decide_eq_true_eq]; omega
    by_cases h101 : c.toNat = 101 ∨ c.toNat = 69
    · rw [if_pos ⟨hbl, h101⟩] at hf
      have q1 : (ibits .or .u8 (c.toNat : Int) 32 == 101) = true := by rw [o32]; rcases h101 with h | h <;> rw [h] <;> rfl
      have e5 := i64n ((b2 : Int) + 1) (b2 + 1) (by omega) (by omega)
      obtain ⟨k, hk⟩ : ∃ k, b2 + 1 = k := ⟨_, rfl⟩
      rw [hk] at hf e5
      have hkl : k ≤ l.length := by omega
      have i4 := dgd_le l (powS l k) (powS_le l k hkl)
      obtain ⟨c2, hc2⟩ : ∃ c, l.getD k 0 = c := ⟨_, rfl⟩
      have hps : powS l k = if k < l.length ∧ (c2.toNat = 43 ∨ c2.toNat = 45) then k + 1 else k := by rw [← hc2]; rfl
      obtain ⟨k2, hk2⟩ : ∃ x, powS l k = x := ⟨_, rfl⟩
      rw [hk2] at hf i4 hps
      obtain ⟨n2, hn2⟩ : ∃ n, dgL (l.drop k2) = n := ⟨_, rfl⟩
      have da : PCall Tryd.prog glob 68 [.v (.string (bs (l.drop k2)))] (.v (.int .i64 n2)) := by rw [← hn2]; exact dp _
      rw [hn2] at hf i4
      have e6 := i64n ((k2 : Int) + n2) (k2 + n2) (by omega) (by omega)
      have e7 := i64n ((k : Int) + 1) (k + 1) (by omega) (by omega)
      by_cases hkl2 : k < l.length
      · have d2 : decide ((k : Int) < l.length) = true := by rw [decide_eq_true_eq]; omega
        by_cases h43 : c2.toNat = 43
        · rw [if_pos ⟨hkl2, .inl h43⟩] at hps
          rw [← hps] at e7
          have q2 : (((c2.toNat : Nat) : Int) == 43) = true := by rw [h43]; rfl
          by_cases h20 : n2 = 0
          · rw [if_pos h20] at hf
            subst h20
            rw [hf]
            refine G1 F4 (an d1 (an hc (an q1 (an e5 (an d2 (an hc2 (an q2 (an e7 tt)))))))) (an da.go tt) tt tt ⟨?_⟩
            refine R1 tt ⟨?_⟩
            exact end0 (NR.v _) rfl
          · rw [if_neg h20] at hf
            rw [hf]
            have q3 : ((n2 : Int) == 0) = false := by rw [beq_eq_false_iff_ne, ne_eq]; omega
            refine G1 F4 (an d1 (an hc (an q1 (an e5 (an d2 (an hc2 (an q2 (an e7 (an q3 (an e6 tt)))))))))) (an da.go tt) tt tt ⟨?_⟩
            refine R1 tt ⟨?_⟩
            exact end0 (NR.v _) rfl
        have q2 : (((c2.toNat : Int) : Int) == 43) = false := by rw [beq_eq_false_iff_ne, ne_eq]; omega
        by_cases h45 : c2.toNat = 45
        · rw [if_pos ⟨hkl2, .inr h45⟩] at hps
          rw [← hps] at e7
          have q4 : (((c2.toNat : Nat) : Int) == 45) = true := by rw [h45]; rfl
          by_cases h20 : n2 = 0
          · rw [if_pos h20] at hf
            subst h20
            rw [hf]
            refine G1 F4 (an d1 (an hc (an q1 (an e5 (an d2 (an hc2 (an q2 (an q4 (an e7 tt))))))))) (an da.go tt) tt tt ⟨?_⟩
            refine R1 tt ⟨?_⟩
            exact end0 (NR.v _) rfl
          · rw [if_neg h20] at hf
            rw [hf]
            have q3 : ((n2 : Int) == 0) = false := by rw [beq_eq_false_iff_ne, ne_eq]; omega
            refine G1 F4 (an d1 (an hc (an q1 (an e5 (an d2 (an hc2 (an q2 (an q4 (an e7 (an q3 (an e6 tt))))))))))) (an da.go tt) tt tt ⟨?_⟩
            refine R1 tt ⟨?_⟩
            exact end0 (NR.v _) rfl
        · rw [if_neg (fun h => by omega)] at hps
          subst hps
          have q4 : (((c2.toNat : Int) : Int) == 45) = false := by rw [beq_eq_false_iff_ne, ne_eq]; omega
          by_cases h20 : n2 = 0
          · rw [if_pos h20] at hf
            subst h20
            rw [hf]
            refine G1 F4 (an d1 (an hc (an q1 (an e5 (an d2 (an hc2 (an q2 (an q4 tt)))))))) (an da.go tt) tt tt ⟨?_⟩
            refine R1 tt ⟨?_⟩
            exact end0 (NR.v _) rfl
          · rw [if_neg h20] at hf
            rw [hf]
            have q3 : ((n2 : Int) == 0) = false := by rw [beq_eq_false_iff_ne, ne_eq]; omega
            refine G1 F4 (an d1 (an hc (an q1 (an e5 (an d2 (an hc2 (an q2 (an q4 (an q3 (an e6 tt)))))))))) (an da.go tt) tt tt ⟨?_⟩
            refine R1 tt ⟨?_⟩
            exact end0 (NR.v _) rfl
      · rw [if_neg (fun h => hkl2 h.1)] at hps
        subst hps
        have d2 : decide ((k2 : Int) < l.length) = false := by rw [decide_eq_false_iff_not]; omega
        have h20 : n2 = 0 := by
          rw [← hn2, List.drop_of_length_le (by omega)]
          rfl
        rw [if_pos h20] at hf
        subst h20
        rw [hf]
        refine G1 F4 (an d1 (an hc (an q1 (an e5 (an d2 tt))))) (an da.go tt) tt tt ⟨?_⟩
        refine R1 tt ⟨?_⟩
        exact end0 (NR.v _) rfl
    · rw [if_neg (fun h => h101 h.2)] at hf
      have q1 : (ibits .or .u8 (c.toNat : Int) 32 == 101) = false := by
        rw [o32, decide_eq_false (fun h => h101 (.inl h)), decide_eq_false (fun h => h101 (.inr h))]
        rfl
      rw [hf]
      refine G1 F4 (an d1 (an hc (an q1 tt))) tt tt tt ⟨?_⟩
      refine R1 tt ⟨?_⟩
      exact end0 (NR.v _) rfl
  · rw [if_neg (fun h => hbl h.1)] at hf
    have d1 : decide ((b2 : Int) < l.length) = false := by rw [decide_eq_false_iff_not]; omega
    rw [hf]
    refine G1 F4 (an d1 tt) tt tt tt ⟨?_⟩
    refine R1 tt ⟨?_⟩
    exact end0 (NR.v _) rfl
end Go.Abs.S
namespace Go.Abs.S
open Go.Proofs
set_option linter.unusedVariables false
set_option linter.unusedSimpArgs false
set_option maxRecDepth 100000
set_option maxHeartbeats 4000000
abbrev vA (v : Val) : AV := .agg v.cells
theorem NR.vA (v : Val) : NR (vA v) := NR.agg v.nr
/-- Texts and rows that the walks bear. -/
def small1 : Val → Prop
  | .mk k t ns vs => t.size ≤ 9223372036854775807 ∧ ns.length ≤ 1000 ∧ (∀ s ∈ ns, s.size ≤ 9223372036854775807) ∧ vs.length ≤ 1000
mutual
def small : Val → Prop
  | .mk k t ns vs => small1 (.mk k t ns vs) ∧ smallL vs
def smallL : List Val → Prop
  | [] => True
  | v :: l => small v ∧ smallL l
end
theorem smallL_iff : ∀ {l : List Val}, smallL l ↔ ∀ v ∈ l, small v
  | [] => ⟨fun _ _ h => absurd h List.not_mem_nil, fun _ => trivial⟩
  | v :: l => by rw [smallL, List.forall_mem_cons, smallL_iff]
theorem small.at {k : Int} {t : ByteArray} {ns : List ByteArray} {vs : List Val} (h : small (.mk k t ns vs)) : small1 (.mk k t ns vs) ∧ ∀ v ∈ vs, small v := by
  rw [small, smallL_iff] at h
  exact h
/-- Whether a value itself may be. -/
def formV : Val → Bool
  | .mk k t ns vs =>
    if k = 0 ∨ k = 1 ∨ k = 2 then decide (t.size = 0) && decide (ns.length = 0) && decide (vs.length = 0)
    else if k = 3 then decide (ns.length = 0) && decide (vs.length = 0) && !decide (t.size = 0) && decide (t.size ≤ 40) && decide (nuL (bl t) = t.size)
    else if k = 4 then decide (ns.length = 0) && decide (vs.length = 0) && validP t
    else if k = 5 then decide (t.size = 0) && decide (ns.length = 0)
    else if k = 6 then decide (t.size = 0) && decide (ns.length = vs.length) && ns.all validP
    else false
mutual
/-- What is wrong with a value at a depth. -/
def goodV : Val → Int → Int
  | .mk k t ns vs, d => if 8 < d then 9 else if formV (.mk k t ns vs) = false then 2 else if 64 < vs.length then 11 else if twiceP ns = true then 10 else goodL vs (d + 1)
def goodL : List Val → Int → Int
  | [], _ => 0
  | v :: l, d => if goodV v d = 0 then goodL l d else goodV v d
end
theorem goodL_step (l : List Val) (k : Nat) (h : k < l.length) (d : Int) : goodL (l.drop k) d = if goodV (l.getD k default) d = 0 then goodL (l.drop (k + 1)) d else goodV (l.getD k default) d := by
  rw [List.drop_eq_getElem_cons h, goodL, List.getD_eq_getElem?_getD, List.getElem?_eq_getElem h]
  rfl
theorem getD_mem (l : List Val) (k : Nat) (h : k < l.length) : l.getD k default ∈ l := by
  rw [List.getD_eq_getElem?_getD, List.getElem?_eq_getElem h]
  exact List.getElem_mem h
end Go.Abs.S
namespace Go.Abs.S
attribute [local go_sem] lguard aopO aop aenv toAV tput aLoad aStore vcells aBin aNilI aUn aAlloc aBox aBuild aBSlice afill aConv isIntT aappZ aCap aArr aMM aMake aSlice bnd3 bnd aFldAddr aFld aIdxAddr aIdx aExt aLen aCopy aEq0 bAV aUb aapp aappQ agh acont List.getD_cons_zero List.getD_cons_succ List.set_cons_zero List.set_cons_succ List.getElem?_cons_zero List.getElem?_cons_succ List.length_cons List.length_nil List.map_cons List.map_nil ints_length if_true if_false Bool.false_eq_true true_and and_true eq_self ne_eq not_false_eq_true not_true_eq_false beq_self_eq_true Nat.zero_add Nat.add_zero Nat.mul_one Nat.zero_mul Int.toNat_natCast List.toList_toArray List.all_cons List.all_nil AV.one Value.oneCell' Bool.and_true Bool.true_and forall_const true_implies false_implies implies_true Option.map_some Option.map_none Option.isSome_some Option.isSome_none imp_self rdP_flat rdP_row splice_one ints_set ints_get List.append_nil List.cons_append List.nil_append List.getElem?_toArray List.drop_zero ints_drop ints_take List.take_of_length_le splice_all ints_one Option.some.injEq Option.getD_some List.length_replicate zArr List.map_replicate rep_ints splice_intsR List.length_set List.length_append List.flatten_replicate_singleton rep_slice rep_string rep_bool rep_iface List.replicate_zero if_pos if_neg List.mapM_cons List.mapM_nil Option.pure_def Option.bind_eq_bind Option.bind_some Bool.true_eq_false Bool.not_false Bool.not_true get_concat set_concat
open Go.Proofs
set_option linter.unusedVariables false
set_option linter.unusedSimpArgs false
set_option maxRecDepth 100000
set_option maxHeartbeats 4000000
theorem size0 (t : ByteArray) : (t.toList == (⟨#[]⟩ : ByteArray).toList) = decide (t.size = 0) := by
  rw [stA_beq, Bool.eq_iff_iff, decide_eq_true_eq, decide_eq_true_eq]
  constructor
  · rintro rfl
    rfl
  · intro h
    cases t
    rename_i a
    have : a = #[] := Array.eq_empty_of_size_eq_zero h
    rw [this]
theorem intz (n : Nat) : (((n : Nat) : Int) == 0) = decide (n = 0) := by
  rw [Bool.eq_iff_iff, beq_iff_eq, decide_eq_true_eq]
  omega
theorem intq (n m : Nat) : (((n : Nat) : Int) == ((m : Nat) : Int)) = decide (n = m) := by
  rw [Bool.eq_iff_iff, beq_iff_eq, decide_eq_true_eq]
  omega
theorem intl (n m : Nat) : decide (((n : Nat) : Int) ≤ ((m : Nat) : Int)) = decide (n ≤ m) := by
  rw [Bool.eq_iff_iff, decide_eq_true_eq, decide_eq_true_eq]
  omega
theorem form_p (v : Val) (h : small1 v) : PCall Tryd.prog glob 39 [vA v] (.v (.bool (formV v))) := by
  refine PCall.of ctx.nr (List.forall_mem_cons.2 ⟨NR.vA v, fun _ h => absurd h List.not_mem_nil⟩) (NR.v _) ?_
  refine lcall39 (by simp) 0 (Nat.le_refl _) ?_
  obtain ⟨k, t, ns, vs⟩ := v
  obtain ⟨ht, hn, hz, hv⟩ := h
  unfold vA formV
  rw [Val.cells]
  unfold lc39
  refine I1 tt ⟨?_⟩
  obtain ⟨bt, hbt⟩ : ∃ b, decide (t.size = 0) = b := ⟨_, rfl⟩
  obtain ⟨bn, hbn⟩ : ∃ b, decide (ns.length = 0) = b := ⟨_, rfl⟩
  obtain ⟨bv, hbv⟩ : ∃ b, decide (vs.length = 0) = b := ⟨_, rfl⟩
  have zt := size0 t
  have zn := intz ns.length
  have zv := intz vs.length
  rw [hbt] at zt ⊢
  rw [hbn] at zn ⊢
  rw [hbv] at zv ⊢
  by_cases h0 : k = 0
  · subst h0
    rw [if_pos (by simp)]
    cases bt <;> cases bn <;> cases bv
    all_goals
      refine G1 F4 (an zt (an zn (an zv tt))) tt tt tt ⟨?_⟩
      refine R1 tt ⟨?_⟩
      exact end0 (NR.v _) rfl
  by_cases h1 : k = 1
  · subst h1
    rw [if_pos (by simp)]
    cases bt <;> cases bn <;> cases bv
    all_goals
      refine G1 F4 (an zt (an zn (an zv tt))) tt tt tt ⟨?_⟩
      refine R1 tt ⟨?_⟩
      exact end0 (NR.v _) rfl
  by_cases h2 : k = 2
  · subst h2
    rw [if_pos (by simp)]
    cases bt <;> cases bn <;> cases bv
    all_goals
      refine G1 F4 (an zt (an zn (an zv tt))) tt tt tt ⟨?_⟩
      refine R1 tt ⟨?_⟩
      exact end0 (NR.v _) rfl
  rw [if_neg (by omega)]
  by_cases h3 : k = 3
  · subst h3
    rw [if_pos rfl]
    have np : t.size ≤ 40 → PCall Tryd.prog glob 53 [stA t] (ivC (nuL (bl t))) := fun h => pnum_p (bl t) (by have e : (bl t).length = t.size := Array.length_toList; omega)
    obtain ⟨b40, h40⟩ : ∃ b, decide (t.size ≤ 40) = b := ⟨_, rfl⟩
    obtain ⟨bq, hq⟩ : ∃ b, decide (nuL (bl t) = t.size) = b := ⟨_, rfl⟩
    have z40 := intl t.size 40
    have zq := intq (nuL (bl t)) t.size
    rw [h40] at z40 ⊢
    rw [hq] at zq ⊢
    cases b40 with
    | false =>
      have z40 : decide ((t.size : Int) ≤ 40) = false := z40
      cases bt <;> cases bn <;> cases bv
      all_goals
        refine G1 F4 (an zt (an zn (an zv (an z40 tt)))) tt tt tt ⟨?_⟩
        refine R1 tt ⟨?_⟩
        exact end0 (NR.v _) rfl
    | true =>
      have z40 : decide ((t.size : Int) ≤ 40) = true := z40
      have np := np (by simpa using h40)
      cases bt <;> cases bn <;> cases bv <;> cases bq
      all_goals
        refine G1 F4 (an zt (an zn (an zv (an z40 (an zq tt))))) (an np.go tt) tt tt ⟨?_⟩
        refine R1 tt ⟨?_⟩
        exact end0 (NR.v _) rfl
  rw [if_neg h3]
  have k0 : ((k : Int) == 0) = false := by rw [beq_eq_false_iff_ne, ne_eq]; omega
  have k1 : ((k : Int) == 1) = false := by rw [beq_eq_false_iff_ne, ne_eq]; omega
  have k2 : ((k : Int) == 2) = false := by rw [beq_eq_false_iff_ne, ne_eq]; omega
  have k3 : ((k : Int) == 3) = false := by rw [beq_eq_false_iff_ne, ne_eq]; omega
  by_cases h4 : k = 4
  · subst h4
    rw [if_pos rfl]
    have vp := valid_p t ht
    obtain ⟨w, hw⟩ : ∃ w, validP t = w := ⟨_, rfl⟩
    rw [hw] at vp ⊢
    cases bn <;> cases bv <;> cases w
    all_goals
      refine G1 F4 (an zt (an zn (an zv tt))) (an vp.go tt) tt tt ⟨?_⟩
      refine R1 tt ⟨?_⟩
      exact end0 (NR.v _) rfl
  rw [if_neg h4]
  by_cases h5 : k = 5
  · subst h5
    rw [if_pos rfl]
    cases bt <;> cases bn
    all_goals
      refine G1 F4 (an zt (an zn (an zv tt))) tt tt tt ⟨?_⟩
      refine R1 tt ⟨?_⟩
      exact end0 (NR.v _) rfl
  rw [if_neg h5]
  by_cases h6 : k = 6
  · subst h6
    rw [if_pos rfl]
    have cf := fun c => ctf_p ns c hn hz
    obtain ⟨w, hw⟩ : ∃ w, ns.all validP = w := ⟨_, rfl⟩
    have zm := intq ns.length vs.length
    obtain ⟨bm, hm⟩ : ∃ b, decide (ns.length = vs.length) = b := ⟨_, rfl⟩
    rw [hw] at cf ⊢
    rw [hm] at zm ⊢
    cases bt <;> cases bm <;> cases w
    all_goals
      repeat (first
        | (with_reducible refine lops_step fun K hK => ?_; simp (disch := first | exact dch | fail) only [go_sem, Nat.reduceAdd, Nat.reduceSub, reduceIte, Nat.reduceEqDiff, Int.reduceToNat, Int.reduceBEq, Int.reduceBNe, zt, zm, Bool.not_not]; (try (first | (refine And.intro (fun _ => ?_) (fun h => absurd h (by decide))) | (refine And.intro (fun h => absurd h (by decide)) (fun _ => ?_)))); (repeat (with_reducible refine And.intro acl ?_)); (first | (refine hK _ _ ?_) | (refine ⟨_, rfl, hK _ _ ?_⟩) | (refine Or.inl (hK _ _ ?_)) | (refine ⟨_, _, Or.inl ((cf _).go _), (by first | exact ⟨[], (List.append_nil _).symm⟩ | exact ⟨_, rfl⟩), hK _ _ ?_⟩) | (refine ⟨_, _, Or.inl ((cf _).go _), hK _ _ ?_⟩) | (refine ⟨_, _, Or.inl ((cf _).go _).weakQ, hK _ _ ?_⟩)); clear hK K)
        | (with_reducible refine lops_nil ?_)
        | (with_reducible first | refine lavc_reg ?_ | refine lavc_seq ?_ | refine lavc_block ?_ | refine lavc_skip ?_ | refine lavc_exit ?_ | refine lavc_ret ?_ | refine lavcR_round ?_)
        | (refine lavc_cond rfl (fun _ => ?_) (fun hc => absurd hc (by decide)))
        | (refine lavc_cond rfl (fun hc => absurd hc (by decide)) (fun _ => ?_))
        | (simp only [↓reduceIte, Nat.reduceEqDiff, reduceCtorEq]))
      refine R1 tt ⟨?_⟩
      exact end0 (NR.v _) rfl
  rw [if_neg h6]
  have k4 : ((k : Int) == 4) = false := by rw [beq_eq_false_iff_ne, ne_eq]; omega
  have k5 : ((k : Int) == 5) = false := by rw [beq_eq_false_iff_ne, ne_eq]; omega
  have k6 : ((k : Int) == 6) = false := by rw [beq_eq_false_iff_ne, ne_eq]; omega
  refine G1 F4 (an k0 (an k1 (an k2 (an k3 (an k4 (an k5 (an k6 tt))))))) tt tt tt ⟨?_⟩
  refine R1 tt ⟨?_⟩
  exact end0 (NR.v _) rfl
theorem good_v : ∀ v : Val, small v → ∀ d : Int, 1 ≤ d → d ≤ 9 → PCall Tryd.prog glob 24 [vA v, ivC d] (ivC (goodV v d)) := Val.ind fun k t ns vs ih hsm d hd1 hd9 => by
  obtain ⟨h1, hall⟩ := hsm.at
  have fp := form_p (.mk k t ns vs) h1
  obtain ⟨ht, hn, hz, hv⟩ := h1
  have tp := fun c => twice_p ns c hn
  have hlx := cellsL_length vs
  refine PCall.of ctx.nr (List.forall_mem_cons.2 ⟨NR.vA _, List.forall_mem_cons.2 ⟨NR.v _, fun _ h => absurd h List.not_mem_nil⟩⟩) (NR.v _) ?_
  refine lcall24 (by simp) 0 (Nat.le_refl _) ?_
  rw [goodV]
  unfold vA at fp ⊢
  rw [Val.cells] at fp ⊢
  unfold lc24
  refine I1 tt ⟨?_⟩
  by_cases h8 : 8 < d
  · rw [if_pos h8]
    have e8 : decide (d > 8) = true := by rw [decide_eq_true_eq]; omega
    refine G1 F4 (an e8 tt) tt tt tt ⟨?_⟩
    refine R1 tt ⟨?_⟩
    exact end0 (NR.v _) rfl
  rw [if_neg h8]
  have e8 : decide (d > 8) = false := by rw [decide_eq_false_iff_not]; omega
  cases hf : formV (.mk k t ns vs) with
  | false =>
    rw [hf] at fp
    rw [if_pos rfl]
    refine G1 F4 (an e8 tt) (an fp.go tt) tt tt ⟨?_⟩
    refine R1 tt ⟨?_⟩
    exact end0 (NR.v _) rfl
  | true =>
    rw [hf] at fp
    rw [if_neg (by decide)]
    by_cases h64 : 64 < vs.length
    · rw [if_pos h64]
      have d1 : decide ((vs.length : Int) > 64) = true := by rw [decide_eq_true_eq]; omega
      refine G1 F4 (an e8 (an d1 tt)) (an fp.go tt) tt tt ⟨?_⟩
      refine R1 tt ⟨?_⟩
      exact end0 (NR.v _) rfl
    rw [if_neg h64]
    have d1 : decide ((vs.length : Int) > 64) = false := by rw [decide_eq_false_iff_not]; omega
    cases htw : twiceP ns with
    | true =>
      rw [htw] at tp
      rw [if_pos rfl]
      refine G1 F4 (an e8 (an d1 tt)) (an fp.go tt) (an (fun u => (tp u).go) tt) tt ⟨?_⟩
      refine R1 tt ⟨?_⟩
      exact end0 (NR.v _) rfl
    | false =>
      rw [htw] at tp
      rw [if_neg (by decide)]
      obtain ⟨V, hV⟩ : ∃ V, goodL vs (d + 1) = V := ⟨_, rfl⟩
      rw [hV]
      refine G1 F4 (an e8 (an d1 tt)) (an fp.go tt) (an (fun u => (tp u).go) tt) tt ⟨?_⟩
      refine lavc_loopM ms24_0 (fun m (x : Nat × AHeap) => m + x.1 = vs.length ∧ goodL (vs.drop x.1) (d + 1) = V) (fun x => [(27, ivC x.1)]) (fun x => [Blk.mk [ivC k, stA t, .vsl ns.length (strs ns) none, .vsl vs.length (cellsL vs) none] 0 true 26] ++ x.2) vs.length (0, []) ⟨by omega, hV⟩ ?_ ?_ ?_
      · try unfold ms24_0
        refine A1 tt ⟨?_⟩
        rfl
      · rfl
      rintro m ⟨j, gg⟩ ⟨hk, hi⟩
      simp only at hk hi ⊢
      try unfold ms24_0
      refine M1 tt ⟨?_⟩
      refine G1 F1 tt tt tt tt ⟨?_⟩
      refine cnd rfl (fun hc => ?_) (fun hc => ?_)
      · have hkl : j < vs.length := by omega
        have hat := cellsL_at vs j hkl
        rw [goodL_step vs j hkl] at hi
        have hmem := getD_mem vs j hkl
        obtain ⟨y, hy⟩ : ∃ y, vs.getD j default = y := ⟨_, rfl⟩
        rw [hy] at hat hi hmem
        have gt := ih y hmem (hall y hmem) (d + 1) (by omega) (by omega)
        have e3 := i64n ((j : Int) + 1) (j + 1) (by omega) (by omega)
        have e2 := i64z (d + 1) (by omega)
        obtain ⟨w, hw⟩ : ∃ w, goodV y (d + 1) = w := ⟨_, rfl⟩
        rw [hw] at gt hi
        obtain ⟨k', t', ns', vs'⟩ := y
        unfold vA at gt
        rw [Val.cells] at gt hat
        by_cases h0 : w = 0
        · subst h0
          rw [if_pos rfl] at hi
          refine G1 F4 (an hat (an hlx (an e2 (an e3 tt)))) (an gt.go tt) tt tt ⟨?_⟩
          refine ⟨m - 1, (j + 1, gg ++ [⟨[ivC k', stA t', .vsl ns'.length (strs ns') none, .vsl vs'.length (cellsL vs') none], 0, true, 26⟩]), by omega, ⟨by show m - 1 + (j + 1) = vs.length; omega, hi⟩, ?_, (by first | rfl | trivial)⟩
          try unfold ms24_0
          exact A0 tt
        · rw [if_neg h0] at hi
          have dw : ((w : Int) != 0) = true := by rw [bne_iff_ne, ne_eq]; omega
          refine G1 F4 (an hat (an hlx (an e2 (an e3 (an dw tt))))) (an gt.go tt) tt tt ⟨?_⟩
          refine R1 tt ⟨?_⟩
          exact end0 (NR.v _) (by rw [← hi])
      · have hk2 : j = vs.length := by omega
        rw [hk2, List.drop_length] at hi
        refine G1 F4 tt tt tt tt ⟨?_⟩
        refine R1 tt ⟨?_⟩
        exact end0 (NR.v _) (by rw [← hi]; rfl)
theorem Good_v (v : Val) (h : small v) : PCall Tryd.prog glob 11 [vA v] (ivC (goodV v 1)) := by
  refine PCall.of ctx.nr (List.forall_mem_cons.2 ⟨NR.vA v, fun _ h => absurd h List.not_mem_nil⟩) (NR.v _) ?_
  refine lcall11 (by simp) 0 (Nat.le_refl _) ?_
  have gp := good_v v h 1 (by decide) (by decide)
  obtain ⟨w, hw⟩ : ∃ w, goodV v 1 = w := ⟨_, rfl⟩
  rw [hw] at gp ⊢
  obtain ⟨k, t, ns, vs⟩ := v
  unfold vA at gp ⊢
  rw [Val.cells] at gp ⊢
  unfold lc11
  refine I1 tt ⟨?_⟩
  refine G1 F4 tt (an gp.go tt) tt tt ⟨?_⟩
  refine R1 tt ⟨?_⟩
  exact end0 (NR.v _) rfl
end Go.Abs.S
namespace Go.Abs.S
open Go.Proofs
set_option maxRecDepth 100000
def impCodR : FuncId → Bool := fun f => f == 20 || f == 22 || f == 35 || f == 51 || f == 67
/-- escutcheon/escutcheonlaw22.ClaimRows -/
def lc3 : LCode := .seq (.reg []
  [o1 3 (.box 26 (.tmp 0)),
  o1 5 (.box 28 (.tmp 2)),
  o1 6 (.assign (.const (.bool false)))]) (.seq (.seq (.reg []
  [o1 10 (.call ⟨.value (.func 6), #[], #[]⟩),
  o1 11 (.unOp .not 4 (.tmp 10)),
  o1 12 (.move (.tmp 11)),
  o2 13 (.load 26 (.tmp 3)) 12 false,
  o2 14 (.call ⟨.value (.func 7), #[.tmp 13], #[26]⟩) 12 false,
  o2 15 (.unOp .not 4 (.tmp 14)) 12 false,
  o1 16 (.pick (.tmp 12) (.const (.bool true)) (.tmp 15)),
  o1 17 (.move (.tmp 16)),
  o2 18 (.indexAddr 28 (.tmp 5) (.const (.int .i64 0))) 17 false,
  o2 19 (.load 27 (.tmp 18)) 17 false,
  o2 20 (.call ⟨.builtin .len, #[.tmp 19], #[27]⟩) 17 false,
  o2 21 (.binOp .gtr 3 (.tmp 20) (.const (.int .i64 10)) 3) 17 false,
  o1 22 (.pick (.tmp 17) (.const (.bool true)) (.tmp 21)),
  o1 23 (.move (.tmp 22)),
  o2 24 (.indexAddr 28 (.tmp 5) (.const (.int .i64 1))) 23 false,
  o2 25 (.load 27 (.tmp 24)) 23 false,
  o2 26 (.call ⟨.builtin .len, #[.tmp 25], #[27]⟩) 23 false,
  o2 27 (.binOp .gtr 3 (.tmp 26) (.const (.int .i64 10)) 3) 23 false,
  o1 28 (.pick (.tmp 23) (.const (.bool true)) (.tmp 27))]) (.cond (.tmp 28) (.seq (.reg []
  [o1 29 (.call ⟨.value (.func 6), #[], #[]⟩),
  o1 6 (.assign (.tmp 29))]) (.ret)) (.skip))) (.seq (.reg [o1 30 (.load 26 (.tmp 3)),
  o1 31 (.move (.tmp 1)),
  o1 32 (.indexAddr 28 (.tmp 5) (.const (.int .i64 0))),
  o1 33 (.load 27 (.tmp 32)),
  o1 34 (.call ⟨.value (.func 8), #[.tmp 30, .tmp 31, .tmp 33], #[26, 3, 27]⟩),
  o1 35 (.load 26 (.tmp 3)),
  o1 36 (.move (.tmp 1)),
  o1 37 (.indexAddr 28 (.tmp 5) (.const (.int .i64 1))),
  o1 38 (.load 27 (.tmp 37)),
  o1 39 (.call ⟨.value (.func 8), #[.tmp 35, .tmp 36, .tmp 38], #[26, 3, 27]⟩),
  o1 7 (.assign (.tmp 34)),
  o1 8 (.assign (.tmp 39))]
  []) (.seq (.regl [o1 40 (.load 26 (.tmp 3)),
  o1 41 (.move (.tmp 1)),
  o1 43 (.indexAddr 28 (.tmp 5) (.const (.int .i64 0))),
  o1 44 (.load 27 (.tmp 43)),
  o1 46 (.indexAddr 28 (.tmp 5) (.const (.int .i64 1))),
  o1 47 (.load 27 (.tmp 46))]
  []
  [o1 42 (.buildSlice 27 0 #[]),
  o1 45 (.call ⟨.builtin .append, #[.tmp 42, .tmp 44], #[27, 27]⟩),
  o1 48 (.call ⟨.builtin .append, #[.tmp 45, .tmp 47], #[27, 27]⟩)]
  [o1 49 (.call ⟨.value (.func 8), #[.tmp 40, .tmp 41, .tmp 48], #[26, 3, 27]⟩),
  o1 9 (.assign (.tmp 49))]) (.seq (.seq (.reg []
  [o1 50 (.move (.tmp 7)),
  o1 51 (.binOp .neq 31 (.tmp 50) (.const (.int .i64 0)) 31)]) (.cond (.tmp 51) (.seq (.reg []
  [o1 52 (.move (.tmp 9)),
  o1 53 (.move (.tmp 7)),
  o1 54 (.binOp .eql 31 (.tmp 52) (.tmp 53) 31),
  o1 6 (.assign (.tmp 54))]) (.ret)) (.skip))) (.seq (.reg []
  [o1 55 (.move (.tmp 9)),
  o1 56 (.move (.tmp 8)),
  o1 57 (.binOp .eql 31 (.tmp 55) (.tmp 56) 31),
  o1 58 (.move (.tmp 57)),
  o2 59 (.load 26 (.tmp 3)) 58 true,
  o2 60 (.move (.tmp 1)) 58 true,
  o2 61 (.call ⟨.value (.func 8), #[.tmp 59, .tmp 60, .const (.slice none 0 0)], #[26, 3, 27]⟩) 58 true,
  o2 62 (.binOp .eql 31 (.tmp 61) (.const (.int .i64 0)) 31) 58 true,
  o1 63 (.pick (.tmp 58) (.tmp 62) (.const (.bool false))),
  o1 6 (.assign (.tmp 63))]) (.ret))))))
theorem ls3 : Tryd.f3.body.map (strip Tryd.prog impCodR) = some lc3 := by kernel_rfl
theorem lcall3 : LC 3 64 lc3 [.tmp 6] := LC.of Tryd.func3 (by kernel_rfl) ls3 (by kernel_rfl) (by kernel_rfl)
/-- escutcheon/escutcheonlaw22.few -/
def lc7 : LCode := .seq (.reg []
  [o1 1 (.box 26 (.tmp 0)),
  o1 2 (.assign (.const (.bool false)))]) (.seq (.seq (.reg []
  [o1 7 (.fieldAddr 26 (.tmp 1) 2),
  o1 8 (.load 23 (.tmp 7)),
  o1 9 (.call ⟨.builtin .len, #[.tmp 8], #[23]⟩),
  o1 10 (.binOp .gtr 3 (.tmp 9) (.const (.int .i64 80)) 3),
  o1 11 (.move (.tmp 10)),
  o2 12 (.fieldAddr 26 (.tmp 1) 3) 11 false,
  o2 13 (.load 24 (.tmp 12)) 11 false,
  o2 14 (.call ⟨.builtin .len, #[.tmp 13], #[24]⟩) 11 false,
  o2 15 (.binOp .gtr 3 (.tmp 14) (.const (.int .i64 80)) 3) 11 false,
  o1 16 (.pick (.tmp 11) (.const (.bool true)) (.tmp 15))]) (.cond (.tmp 16) (.seq (.reg []
  [o1 2 (.assign (.const (.bool false)))]) (.ret)) (.skip))) (.seq (.seq (.reg []
  [o1 17 (.fieldAddr 26 (.tmp 1) 3),
  o1 18 (.load 24 (.tmp 17)),
  o1 19 (.call ⟨.builtin .len, #[.tmp 18], #[24]⟩),
  o1 20 (.move (.const (.int .i64 0)))]) (.block 0 (.loop (.seq (.reg []
  [o1 21 (.binOp .lss 3 (.tmp 20) (.tmp 19) 3)]) (.seq (.cond (.tmp 21) (.skip) (.exit 0)) (.seq (.block 1 (.seq (.reg []
  [o1 22 (.indexAddr 24 (.tmp 18) (.tmp 20)),
  o1 23 (.load 26 (.tmp 22)),
  o1 4 (.alloc 26),
  o3 (.store 26 (.tmp 4) (.tmp 23))]) (.seq (.seq (.reg []
  [o1 24 (.fieldAddr 26 (.tmp 4) 1),
  o1 25 (.load 9 (.tmp 24)),
  o1 26 (.call ⟨.builtin .len, #[.tmp 25], #[9]⟩),
  o1 27 (.binOp .gtr 3 (.tmp 26) (.const (.int .i64 100)) 3),
  o1 28 (.move (.tmp 27)),
  o2 29 (.fieldAddr 26 (.tmp 4) 3) 28 false,
  o2 30 (.load 24 (.tmp 29)) 28 false,
  o2 31 (.call ⟨.builtin .len, #[.tmp 30], #[24]⟩) 28 false,
  o2 32 (.binOp .gtr 3 (.tmp 31) (.const (.int .i64 20)) 3) 28 false,
  o1 33 (.pick (.tmp 28) (.const (.bool true)) (.tmp 32)),
  o1 34 (.move (.tmp 33)),
  o2 35 (.fieldAddr 26 (.tmp 4) 2) 34 false,
  o2 36 (.load 23 (.tmp 35)) 34 false,
  o2 37 (.call ⟨.builtin .len, #[.tmp 36], #[23]⟩) 34 false,
  o2 38 (.binOp .gtr 3 (.tmp 37) (.const (.int .i64 20)) 3) 34 false,
  o1 39 (.pick (.tmp 34) (.const (.bool true)) (.tmp 38))]) (.cond (.tmp 39) (.seq (.reg []
  [o1 2 (.assign (.const (.bool false)))]) (.ret)) (.skip))) (.seq (.reg []
  [o1 40 (.fieldAddr 26 (.tmp 4) 3),
  o1 41 (.load 24 (.tmp 40)),
  o1 42 (.call ⟨.builtin .len, #[.tmp 41], #[24]⟩),
  o1 43 (.move (.const (.int .i64 0)))]) (.block 2 (.loop (.seq (.reg []
  [o1 44 (.binOp .lss 3 (.tmp 43) (.tmp 42) 3)]) (.seq (.cond (.tmp 44) (.skip) (.exit 2)) (.seq (.block 3 (.seq (.reg []
  [o1 45 (.indexAddr 24 (.tmp 41) (.tmp 43)),
  o1 46 (.load 26 (.tmp 45)),
  o1 6 (.alloc 26),
  o3 (.store 26 (.tmp 6) (.tmp 46))]) (.seq (.reg []
  [o1 47 (.fieldAddr 26 (.tmp 6) 3),
  o1 48 (.load 24 (.tmp 47)),
  o1 49 (.call ⟨.builtin .len, #[.tmp 48], #[24]⟩),
  o1 50 (.binOp .gtr 3 (.tmp 49) (.const (.int .i64 0)) 3),
  o1 51 (.move (.tmp 50)),
  o2 52 (.fieldAddr 26 (.tmp 6) 2) 51 false,
  o2 53 (.load 23 (.tmp 52)) 51 false,
  o2 54 (.call ⟨.builtin .len, #[.tmp 53], #[23]⟩) 51 false,
  o2 55 (.binOp .gtr 3 (.tmp 54) (.const (.int .i64 0)) 3) 51 false,
  o1 56 (.pick (.tmp 51) (.const (.bool true)) (.tmp 55)),
  o1 57 (.move (.tmp 56)),
  o2 58 (.fieldAddr 26 (.tmp 6) 1) 57 false,
  o2 59 (.load 9 (.tmp 58)) 57 false,
  o2 60 (.call ⟨.builtin .len, #[.tmp 59], #[9]⟩) 57 false,
  o2 61 (.binOp .gtr 3 (.tmp 60) (.const (.int .i64 100)) 3) 57 false,
  o1 62 (.pick (.tmp 57) (.const (.bool true)) (.tmp 61))]) (.cond (.tmp 62) (.seq (.reg []
  [o1 2 (.assign (.const (.bool false)))]) (.ret)) (.skip))))) (.reg []
  [o1 63 (.binOp .add 3 (.tmp 43) (.const (.int .i64 1)) 3),
  o1 43 (.move (.tmp 63))])))))))))) (.reg []
  [o1 64 (.binOp .add 3 (.tmp 20) (.const (.int .i64 1)) 3),
  o1 20 (.move (.tmp 64))]))))))) (.seq (.reg []
  [o1 2 (.assign (.const (.bool true)))]) (.ret))))
def ms7_0 : List Nat := [0, 1, 2, 3, 4, 5, 6, 7, 8, 9, 10, 11, 12, 13, 14, 15, 16, 17, 20, 21, 22, 23, 24, 25, 26, 27, 28, 29, 30, 31, 32, 33, 34, 35, 36, 37, 38, 39, 40, 41, 42, 43, 44, 45, 46, 47, 48, 49, 50, 51, 52, 53, 54, 55, 56, 57, 58, 59, 60, 61, 62, 63, 64]
def ms7_1 : List Nat := [0, 1, 2, 3, 5, 6, 7, 8, 9, 10, 11, 12, 13, 14, 15, 16, 17, 43, 44, 45, 46, 47, 48, 49, 50, 51, 52, 53, 54, 55, 56, 57, 58, 59, 60, 61, 62, 63]
theorem ls7 : Tryd.f7.body.map (strip Tryd.prog impCodR) = some lc7 := by kernel_rfl
theorem lcall7 : LC 7 65 lc7 [.tmp 2] := LC.of Tryd.func7 (by kernel_rfl) ls7 (by kernel_rfl) (by kernel_rfl)
end Go.Abs.S
namespace Go.Abs.S
attribute [local go_sem] lguard aopO aop aenv toAV tput aLoad aStore vcells aBin aNilI aUn aAlloc aBox aBuild aBSlice afill aConv isIntT aappZ aCap aArr aMM aMake aSlice bnd3 bnd aFldAddr aFld aIdxAddr aIdx aExt aLen aCopy aEq0 bAV aUb aapp aappQ agh acont List.getD_cons_zero List.getD_cons_succ List.set_cons_zero List.set_cons_succ List.getElem?_cons_zero List.getElem?_cons_succ List.length_cons List.length_nil List.map_cons List.map_nil ints_length if_true if_false Bool.false_eq_true true_and and_true eq_self ne_eq not_false_eq_true not_true_eq_false beq_self_eq_true Nat.zero_add Nat.add_zero Nat.mul_one Nat.zero_mul Int.toNat_natCast List.toList_toArray List.all_cons List.all_nil AV.one Value.oneCell' Bool.and_true Bool.true_and forall_const true_implies false_implies implies_true Option.map_some Option.map_none Option.isSome_some Option.isSome_none imp_self rdP_flat rdP_row splice_one ints_set ints_get List.append_nil List.cons_append List.nil_append List.getElem?_toArray List.drop_zero ints_drop ints_take List.take_of_length_le splice_all ints_one Option.some.injEq Option.getD_some List.length_replicate zArr List.map_replicate rep_ints splice_intsR List.length_set List.length_append List.flatten_replicate_singleton rep_slice rep_string rep_bool rep_iface List.replicate_zero if_pos if_neg List.mapM_cons List.mapM_nil Option.pure_def Option.bind_eq_bind Option.bind_some Bool.true_eq_false Bool.not_false Bool.not_true get_concat set_concat
open Go.Proofs
set_option linter.unusedVariables false
set_option linter.unusedSimpArgs false
set_option maxRecDepth 100000
set_option maxHeartbeats 4000000
def gtB (a b : Nat) : Bool := decide (((a : Nat) : Int) > ((b : Nat) : Int))
def fewY : Val → Bool
  | .mk k t ns vs => !(gtB vs.length 0 || gtB ns.length 0 || gtB t.size 100)
def fewX : Val → Bool
  | .mk k t ns vs => !(gtB t.size 100 || gtB vs.length 20 || gtB ns.length 20) && vs.all fewY
def fewC : Val → Bool
  | .mk k t ns vs => !(gtB ns.length 80 || gtB vs.length 80) && vs.all fewX
theorem all_step (p : Val → Bool) (l : List Val) (k : Nat) (h : k < l.length) : (l.drop k).all p = (p (l.getD k default) && (l.drop (k + 1)).all p) := by
  rw [List.drop_eq_getElem_cons h, List.all_cons, List.getD_eq_getElem?_getD, List.getElem?_eq_getElem h]
  rfl
theorem fewC_p (v : Val) (hv : v.wf) : PCall Tryd.prog glob 7 [vA v] (.v (.bool (fewC v))) := by
  refine PCall.of ctx.nr (List.forall_mem_cons.2 ⟨NR.vA v, fun _ h => absurd h List.not_mem_nil⟩) (NR.v _) ?_
  refine lcall7 (by simp) 0 (Nat.le_refl _) ?_
  obtain ⟨k, t, ns, vs⟩ := v
  have hlx := cellsL_length vs
  unfold vA
  rw [Val.cells, fewC]
  unfold lc7
  refine I1 tt ⟨?_⟩
  obtain ⟨a, ha⟩ : ∃ a, decide ((ns.length : Int) > 80) = a := ⟨_, rfl⟩
  obtain ⟨b, hb⟩ : ∃ a, decide ((vs.length : Int) > 80) = a := ⟨_, rfl⟩
  rw [show gtB ns.length 80 = a from ha, show gtB vs.length 80 = b from hb]
  cases a
  case true =>
    refine G1 F4 (an ha tt) tt tt tt ⟨?_⟩
    refine R1 tt ⟨?_⟩
    exact end0 (NR.v _) rfl
  cases b
  case true =>
    refine G1 F4 (an ha (an hb tt)) tt tt tt ⟨?_⟩
    refine R1 tt ⟨?_⟩
    exact end0 (NR.v _) rfl
  have hvl : vs.length ≤ 80 := by
    have := of_decide_eq_false hb
    omega
  obtain ⟨V, hV⟩ : ∃ V, vs.all fewX = V := ⟨_, rfl⟩
  rw [hV]
  refine G1 F4 (an ha (an hb tt)) tt tt tt ⟨?_⟩
  refine lavc_loopM ms7_0 (fun m (x : Nat × AHeap) => m + x.1 = vs.length ∧ (vs.drop x.1).all fewX = V) (fun x => [(20, ivC x.1)]) (fun x => x.2) vs.length (0, _) ⟨by omega, hV⟩ ?_ rfl ?_
  · try unfold ms7_0
    refine A1 tt ⟨?_⟩
    rfl
  rintro m ⟨j, gg⟩ ⟨hk, hi⟩
  simp only at hk hi ⊢
  try unfold ms7_0
  refine M1 tt ⟨?_⟩
  refine G1 F1 tt tt tt tt ⟨?_⟩
  refine cnd rfl (fun hc => ?_) (fun hc => ?_)
  · have hkl : j < vs.length := by omega
    have hat := cellsL_at vs j hkl
    rw [all_step fewX vs j hkl] at hi
    have e3 := i64n ((j : Int) + 1) (j + 1) (by omega) (by omega)
    obtain ⟨y, hy⟩ : ∃ y, vs.getD j default = y := ⟨_, rfl⟩
    rw [hy] at hat hi
    obtain ⟨k', t', ns', vs'⟩ := y
    have hlx' := cellsL_length vs'
    rw [Val.cells] at hat
    rw [fewX] at hi
    obtain ⟨a, ha⟩ : ∃ a, decide ((t'.size : Int) > 100) = a := ⟨_, rfl⟩
    obtain ⟨b, hb⟩ : ∃ a, decide ((vs'.length : Int) > 20) = a := ⟨_, rfl⟩
    obtain ⟨c, hc'⟩ : ∃ a, decide ((ns'.length : Int) > 20) = a := ⟨_, rfl⟩
    rw [show gtB t'.size 100 = a from ha, show gtB vs'.length 20 = b from hb, show gtB ns'.length 20 = c from hc'] at hi
    cases a
    case true =>
      refine G1 F4 (an hat (an hlx (an e3 (an ha tt)))) tt tt tt ⟨?_⟩
      refine R1 tt ⟨?_⟩
      exact end0 (NR.v _) (by rw [← hi]; rfl)
    cases b
    case true =>
      refine G1 F4 (an hat (an hlx (an e3 (an ha (an hb tt))))) tt tt tt ⟨?_⟩
      refine R1 tt ⟨?_⟩
      exact end0 (NR.v _) (by rw [← hi]; rfl)
    cases c
    case true =>
      refine G1 F4 (an hat (an hlx (an e3 (an ha (an hb (an hc' tt)))))) tt tt tt ⟨?_⟩
      refine R1 tt ⟨?_⟩
      exact end0 (NR.v _) (by rw [← hi]; rfl)
    have hvl' : vs'.length ≤ 20 := by
      have := of_decide_eq_false hb
      omega
    obtain ⟨W, hW⟩ : ∃ W, vs'.all fewY = W := ⟨_, rfl⟩
    rw [hW] at hi
    refine G1 F4 (an hat (an hlx (an e3 (an ha (an hb (an hc' tt)))))) tt tt tt ⟨?_⟩
    refine lavc_loopM ms7_1 (fun m (x : Nat × AHeap) => m + x.1 = vs'.length ∧ (vs'.drop x.1).all fewY = W) (fun x => [(43, ivC x.1)]) (fun x => x.2) vs'.length (0, _) ⟨by omega, hW⟩ ?_ rfl ?_
    · refine ALe.mk ?_
      simp only [ms7_1, putAll, blank, List.foldl_cons, List.foldl_nil, List.set_cons_succ, List.set_cons_zero, List.cons_append, List.nil_append, ALe0, true_or, or_true, and_true, true_and, eq_self, reduceCtorEq, false_or]
      try rfl
    rintro m2 ⟨i, g2⟩ ⟨hk2, hi2⟩
    simp only at hk2 hi2 ⊢
    try unfold ms7_1
    refine M1 tt ⟨?_⟩
    refine G1 F1 tt tt tt tt ⟨?_⟩
    refine cnd rfl (fun hc => ?_) (fun hc => ?_)
    · have hkl2 : i < vs'.length := by omega
      have hat2 := cellsL_at vs' i hkl2
      rw [all_step fewY vs' i hkl2] at hi2
      have e4 := i64n ((i : Int) + 1) (i + 1) (by omega) (by omega)
      obtain ⟨y, hy⟩ : ∃ y, vs'.getD i default = y := ⟨_, rfl⟩
      rw [hy] at hat2 hi2
      obtain ⟨k2, t2, ns2, vs2⟩ := y
      rw [Val.cells] at hat2
      rw [fewY] at hi2
      obtain ⟨a, ha⟩ : ∃ a, decide ((t2.size : Int) > 100) = a := ⟨_, rfl⟩
      obtain ⟨b, hb⟩ : ∃ a, decide ((vs2.length : Int) > 0) = a := ⟨_, rfl⟩
      obtain ⟨c, hc'⟩ : ∃ a, decide ((ns2.length : Int) > 0) = a := ⟨_, rfl⟩
      rw [show gtB t2.size 100 = a from ha, show gtB vs2.length 0 = b from hb, show gtB ns2.length 0 = c from hc'] at hi2
      cases b
      case true =>
        have hW0 : W = false := by rw [← hi2]; rfl
        refine G1 F4 (an hat2 (an hlx' (an hb tt))) tt tt tt ⟨?_⟩
        refine R1 tt ⟨?_⟩
        exact end0 (NR.v _) (by rw [← hi, hW0]; rfl)
      cases c
      case true =>
        have hW0 : W = false := by rw [← hi2]; rfl
        refine G1 F4 (an hat2 (an hlx' (an hb (an hc' tt)))) tt tt tt ⟨?_⟩
        refine R1 tt ⟨?_⟩
        exact end0 (NR.v _) (by rw [← hi, hW0]; rfl)
      cases a
      case true =>
        have hW0 : W = false := by rw [← hi2]; rfl
        refine G1 F4 (an hat2 (an hlx' (an hb (an hc' (an ha tt))))) tt tt tt ⟨?_⟩
        refine R1 tt ⟨?_⟩
        exact end0 (NR.v _) (by rw [← hi, hW0]; rfl)
      refine G1 F4 (an hat2 (an hlx' (an e4 (an hb (an hc' (an ha tt)))))) tt tt tt ⟨?_⟩
      refine ⟨m2 - 1, (i + 1, _), by omega, ⟨by show m2 - 1 + (i + 1) = vs'.length; omega, by rw [← hi2]; rfl⟩, ?_, rfl⟩
      try unfold ms7_1
      exact A0 tt
    · have hk3 : i = vs'.length := by omega
      rw [hk3, List.drop_length] at hi2
      have hW1 : W = true := by rw [← hi2]; rfl
      refine G1 F4 (an e3 tt) tt tt tt ⟨?_⟩
      refine ⟨m - 1, (j + 1, _), by omega, ⟨by show m - 1 + (j + 1) = vs.length; omega, by rw [← hi, hW1]; rfl⟩, ?_, rfl⟩
      try unfold ms7_0
      exact A0 tt
  · have hk2 : j = vs.length := by omega
    rw [hk2, List.drop_length] at hi
    refine G1 F4 tt tt tt tt ⟨?_⟩
    refine R1 tt ⟨?_⟩
    exact end0 (NR.v _) (by rw [← hi]; rfl)
theorem fewC_small (v : Val) (hv : v.wf) (h : fewC v = true) : small v := by
  obtain ⟨k, t, ns, vs⟩ := v
  rw [Val.wf, wfL_iff] at hv
  obtain ⟨_, h1, ⟨_, h2⟩, _, h4⟩ := hv
  have hm : maxLen ≤ 9223372036854775807 := by decide
  simp only [fewC, gtB, Bool.and_eq_true, Bool.not_eq_true', Bool.or_eq_false_iff, decide_eq_false_iff_not, List.all_eq_true] at h
  obtain ⟨⟨g1, g2⟩, g3⟩ := h
  rw [small, smallL_iff]
  refine ⟨⟨by omega, by omega, fun s hs => by have := h2 s hs; omega, by omega⟩, fun x hx => ?_⟩
  have hx1 := g3 x hx
  have hx2 := h4 x hx
  obtain ⟨k', t', ns', vs'⟩ := x
  rw [Val.wf, wfL_iff] at hx2
  obtain ⟨_, i1, ⟨_, i2⟩, _, i4⟩ := hx2
  simp only [fewX, gtB, Bool.and_eq_true, Bool.not_eq_true', Bool.or_eq_false_iff, decide_eq_false_iff_not, List.all_eq_true] at hx1
  obtain ⟨⟨⟨j1, j2⟩, j3⟩, j4⟩ := hx1
  rw [small, smallL_iff]
  refine ⟨⟨by omega, by omega, fun s hs => by have := i2 s hs; omega, by omega⟩, fun y hy => ?_⟩
  have hy1 := j4 y hy
  have hy2 := i4 y hy
  obtain ⟨k2, t2, ns2, vs2⟩ := y
  rw [Val.wf, wfL_iff] at hy2
  obtain ⟨_, l1, ⟨_, l2⟩, _, l4⟩ := hy2
  simp only [fewY, gtB, Bool.not_eq_true', Bool.or_eq_false_iff, decide_eq_false_iff_not] at hy1
  obtain ⟨⟨o1, o2⟩, o3⟩ := hy1
  have hvs : vs2 = [] := List.eq_nil_of_length_eq_zero (by omega)
  rw [small, smallL_iff, hvs]
  exact ⟨⟨by omega, by omega, fun s hs => by have := l2 s hs; omega, by decide⟩, fun _ h => absurd h List.not_mem_nil⟩
end Go.Abs.S
namespace Go.Abs.S
attribute [local go_sem] lguard aopO aop aenv toAV tput aLoad aStore vcells aBin aNilI aUn aAlloc aBox aBuild aBSlice afill aConv isIntT aappZ aCap aArr aMM aMake aSlice bnd3 bnd aFldAddr aFld aIdxAddr aIdx aExt aLen aCopy aEq0 bAV aUb aapp aappQ agh acont List.getD_cons_zero List.getD_cons_succ List.set_cons_zero List.set_cons_succ List.getElem?_cons_zero List.getElem?_cons_succ List.length_cons List.length_nil List.map_cons List.map_nil ints_length if_true if_false Bool.false_eq_true true_and and_true eq_self ne_eq not_false_eq_true not_true_eq_false beq_self_eq_true Nat.zero_add Nat.add_zero Nat.mul_one Nat.zero_mul Int.toNat_natCast List.toList_toArray List.all_cons List.all_nil AV.one Value.oneCell' Bool.and_true Bool.true_and forall_const true_implies false_implies implies_true Option.map_some Option.map_none Option.isSome_some Option.isSome_none imp_self rdP_flat rdP_row splice_one ints_set ints_get List.append_nil List.cons_append List.nil_append List.getElem?_toArray List.drop_zero ints_drop ints_take List.take_of_length_le splice_all ints_one Option.some.injEq Option.getD_some List.length_replicate zArr List.map_replicate rep_ints splice_intsR List.length_set List.length_append List.flatten_replicate_singleton rep_slice rep_string rep_bool rep_iface List.replicate_zero if_pos if_neg List.mapM_cons List.mapM_nil Option.pure_def Option.bind_eq_bind Option.bind_some Bool.true_eq_false Bool.not_false Bool.not_true get_concat set_concat
open Go.Proofs
set_option linter.unusedVariables false
set_option linter.unusedSimpArgs false
set_option maxRecDepth 100000
set_option maxHeartbeats 4000000
/-- A name's value. -/
def getV : Val → ByteArray → Val × Bool
  | .mk k t ns vs, name => if k ≠ 6 ∨ idxK ns name 0 < 0 ∨ (vs.length : Int) ≤ idxK ns name 0 then (default, false) else (vs.getD (idxK ns name 0).toNat default, true)
theorem view4 {H : AHeap} (k : Int) (t : ByteArray) : View 0 H (.agg [ivC k, stA t, nlA, nlA]) (vA (.mk k t [] [])) := by
  unfold vA
  rw [Val.cells]
  refine .agg rfl (fun j hj => ?_)
  match j, hj with
  | 0, _ => exact .nr (NR.v _)
  | 1, _ => exact .nr (NR.v _)
  | 2, _ => exact .nil
  | 3, _ => exact .nil
theorem NR.gt (v : Val) (b : Bool) : NR (.tup [Go.Abs.S.vA v, .v (.bool b)]) := NR.tup (by intro c hc; simp at hc; rcases hc with rfl | rfl; exact NR.vA v; exact NR.v _)
theorem get_v (v : Val) (h : small1 v) (name : ByteArray) : PCall Tryd.prog glob 44 [vA v, stA name] (.tup [vA (getV v name).1, .v (.bool (getV v name).2)]) := by
  refine PCall.of ctx.nr (List.forall_mem_cons.2 ⟨NR.vA v, List.forall_mem_cons.2 ⟨NR.v _, fun _ h => absurd h List.not_mem_nil⟩⟩) (NR.gt _ _) ?_
  refine lcall44 (by simp) 0 (Nat.le_refl _) ?_
  obtain ⟨k, t, ns, vs⟩ := v
  obtain ⟨ht, hn, hz, hv⟩ := h
  have ip := fun c => index_p ns c name hn
  have hlt := idxK_lt ns name 0
  have hlx := cellsL_length vs
  rw [show getV (.mk k t ns vs) name = if k ≠ 6 ∨ idxK ns name 0 < 0 ∨ (vs.length : Int) ≤ idxK ns name 0 then (default, false) else (vs.getD (idxK ns name 0).toNat default, true) from rfl]
  obtain ⟨i, hi⟩ : ∃ i, idxK ns name 0 = i := ⟨_, rfl⟩
  rw [hi] at ip hlt ⊢
  have zz : ∀ H, View 0 H (.tup [.agg [ivC 0, stA ⟨#[]⟩, nlA, nlA], .v (.bool false)]) (.tup [vA default, .v (.bool false)]) := fun H => view2 (view4 0 ⟨#[]⟩) (.nr (NR.v _))
  unfold vA at zz ⊢
  rw [show (Val.mk k t ns vs).cells = [ivC k, stA t, .vsl ns.length (strs ns) none, .vsl vs.length (cellsL vs) none] from by rw [Val.cells]]
  unfold lc44
  refine I1 tt ⟨?_⟩
  by_cases h6 : k = 6
  · subst h6
    by_cases h0 : i < 0
    · rw [if_pos (.inr (.inl h0))]
      have d0 : decide (i < 0) = true := by rw [decide_eq_true_eq]; omega
      refine G1 F4 (an d0 tt) tt (an (fun u => (ip u).go) tt) tt ⟨?_⟩
      refine R1 tt ⟨?_⟩
      exact endV (zz _)
    have d0 : decide (i < 0) = false := by rw [decide_eq_false_iff_not]; omega
    by_cases h1 : (vs.length : Int) ≤ i
    · rw [if_pos (.inr (.inr h1))]
      have d1 : decide (i ≥ (vs.length : Int)) = true := by rw [decide_eq_true_eq]; omega
      refine G1 F4 (an d0 (an d1 tt)) tt (an (fun u => (ip u).go) tt) tt ⟨?_⟩
      refine R1 tt ⟨?_⟩
      exact endV (zz _)
    have d1 : decide (i ≥ (vs.length : Int)) = false := by rw [decide_eq_false_iff_not]; omega
    rw [if_neg (by omega)]
    obtain ⟨j, rfl⟩ := Int.eq_ofNat_of_zero_le (show 0 ≤ i by omega)
    have hat := cellsL_at vs j (by omega)
    rw [Int.toNat_natCast]
    obtain ⟨y, hy⟩ : ∃ y, vs.getD j default = y := ⟨_, rfl⟩
    rw [hy] at hat ⊢
    have hnr := NR.gt y true
    obtain ⟨k', t', ns', vs'⟩ := y
    unfold vA at hnr
    rw [Val.cells] at hat hnr
    simp only
    rw [Val.cells]
    refine G1 F4 (an d0 (an d1 (an hat (an hlx tt)))) tt (an (fun u => (ip u).go) tt) tt ⟨?_⟩
    refine R1 tt ⟨?_⟩
    exact end0 hnr rfl
  · rw [if_pos (.inl h6)]
    have q : ((k : Int) != 6) = true := by rw [bne_iff_ne, ne_eq]; omega
    refine G1 F4 (an q tt) tt (an (fun u => (ip u).go) tt) tt ⟨?_⟩
    refine R1 tt ⟨?_⟩
    exact endV (zz _)
/-- A name's text. -/
def txV (ns : List ByteArray) (vs : List Val) (name : ByteArray) : ByteArray × Bool := match getV (.mk 6 ⟨#[]⟩ ns vs) name with
  | (.mk k s _ _, b) => (s, b && decide (k = 4))
theorem text_v (ns : List ByteArray) (vs : List Val) (h : small1 (.mk 6 ⟨#[]⟩ ns vs)) (now : Int) (name : ByteArray) : PCall Tryd.prog glob 29 [claA (.vsl ns.length (strs ns) none) (.vsl vs.length (cellsL vs) none) now, stA name] (.tup [stA (txV ns vs name).1, .v (.bool (txV ns vs name).2)]) := by
  have gv := get_v _ h name
  unfold txV
  obtain ⟨⟨⟨k, s, ns', vs'⟩, b⟩, hy⟩ : ∃ y, getV (.mk 6 ⟨#[]⟩ ns vs) name = y := ⟨_, rfl⟩
  rw [hy] at gv ⊢
  simp only at gv ⊢
  unfold vA at gv
  rw [Val.cells, Val.cells] at gv
  exact text_p _ _ (NR.vsl (NR.strs _)) (NR.vsl (cellsL_nr vs)) now name k s _ _ (.inr ⟨_, _, _, rfl⟩) (.inr ⟨_, _, _, rfl⟩) b gv
/-- The first rule's error, of any value. -/
def chkV : Val → Int → List Rule3 → Int
  | .mk k t ns vs, now, l => if k ≠ 6 ∨ goodV (.mk k t ns vs) 1 ≠ 0 then 2 else chkAll (txV ns vs) now l
theorem good_form (v : Val) (h : goodV v 1 = 0) : formV v = true := by
  obtain ⟨k, t, ns, vs⟩ := v
  rw [goodV, if_neg (by decide)] at h
  cases hf : formV (.mk k t ns vs) with
  | true => rfl
  | false =>
    rw [hf, if_pos rfl] at h
    cases h
theorem page_empty (t : ByteArray) (ns : List ByteArray) (vs : List Val) (h : formV (.mk 6 t ns vs) = true) : t = ⟨#[]⟩ ∧ ns.length = vs.length := by
  rw [formV, if_neg (by decide), if_neg (by decide), if_neg (by decide), if_neg (by decide), if_pos rfl] at h
  simp only [Bool.and_eq_true, decide_eq_true_eq] at h
  refine ⟨?_, h.1.2⟩
  have h0 := size0 t
  rw [stA_beq, decide_eq_true h.1.1, decide_eq_true_eq] at h0
  exact h0
/-- Texts that are read as times. -/
def textsV : Val → Prop
  | .mk _ _ _ vs => ∀ x ∈ vs, match x with
    | .mk _ t _ _ => t.size ≤ 1000000
theorem tx_size (ns : List ByteArray) (vs : List Val) (h : textsV (.mk 6 ⟨#[]⟩ ns vs)) (name : ByteArray) : (txV ns vs name).1.size ≤ 1000000 := by
  unfold txV getV
  split
  · rename_i k s a b t heq
    simp only at *
    split at heq
    · cases heq
      decide
    · rename_i hx
      have e := congrArg Prod.fst heq
      simp only at e
      have hlt := idxK_lt ns name 0
      have := h _ (getD_mem vs (idxK ns name 0).toNat (by omega))
      rw [e] at this
      exact this
theorem check_v (v : Val) (h : small v) (hx : textsV v) (now : Int) (l : List Rule3) (hl : l.length ≤ 1000) (c : Option Nat) :
    PCall Tryd.prog glob 8 [vA v, ivC now, .vsl l.length (rulesA l) c] (ivC (chkV v now l)) := by
  have gp := Good_v v h
  obtain ⟨k, t, ns, vs⟩ := v
  rw [chkV]
  by_cases hb : k ≠ 6 ∨ goodV (.mk k t ns vs) 1 ≠ 0
  · rw [if_pos hb]
    obtain ⟨g, hg⟩ : ∃ g, goodV (.mk k t ns vs) 1 = g := ⟨_, rfl⟩
    rw [hg] at gp hb
    unfold vA at gp ⊢
    rw [Val.cells] at gp ⊢
    exact Check_bad k t _ _ (NR.strs _) _ _ (cellsL_nr vs) now g gp hb l c
  · rw [if_neg hb]
    have h6 : k = 6 := Classical.byContradiction fun h => hb (.inl h)
    have h0 : goodV (.mk k t ns vs) 1 = 0 := Classical.byContradiction fun h => hb (.inr h)
    subst h6
    rw [h0] at gp
    obtain ⟨rfl, _⟩ := page_empty t ns vs (good_form _ h0)
    unfold vA at gp ⊢
    rw [Val.cells] at gp ⊢
    exact Check_p _ _ (NR.strs _) _ _ (cellsL_nr vs) now gp (txV ns vs) (fun name => text_v ns vs h.at.1 now name) l hl (fun r _ _ _ => tx_size ns vs hx r.2.1) c
theorem chkAll_append (tx : ByteArray → ByteArray × Bool) (now : Int) (l m : List Rule3) : chkAll tx now (l ++ m) = if chkAll tx now l = 0 then chkAll tx now m else chkAll tx now l := by
  induction l with
  | nil => rw [List.nil_append, chkAll, if_pos rfl]
  | cons r l ih =>
    rw [List.cons_append, chkAll, chkAll]
    by_cases h : checkP tx now r = 0
    · rw [if_pos h, if_pos h, ih]
    · rw [if_neg h, if_neg h, if_neg h]
end Go.Abs.S
namespace Go.Abs.S
attribute [local go_sem] lguard aopO aop aenv toAV tput aLoad aStore vcells aBin aNilI aUn aAlloc aBox aBuild aBSlice afill aConv isIntT aappZ aCap aArr aMM aMake aSlice bnd3 bnd aFldAddr aFld aIdxAddr aIdx aExt aLen aCopy aEq0 bAV aUb aapp aappQ agh acont List.getD_cons_zero List.getD_cons_succ List.set_cons_zero List.set_cons_succ List.getElem?_cons_zero List.getElem?_cons_succ List.length_cons List.length_nil List.map_cons List.map_nil ints_length if_true if_false Bool.false_eq_true true_and and_true eq_self ne_eq not_false_eq_true not_true_eq_false beq_self_eq_true Nat.zero_add Nat.add_zero Nat.mul_one Nat.zero_mul Int.toNat_natCast List.toList_toArray List.all_cons List.all_nil AV.one Value.oneCell' Bool.and_true Bool.true_and forall_const true_implies false_implies implies_true Option.map_some Option.map_none Option.isSome_some Option.isSome_none imp_self rdP_flat rdP_row splice_one ints_set ints_get List.append_nil List.cons_append List.nil_append List.getElem?_toArray List.drop_zero ints_drop ints_take List.take_of_length_le splice_all ints_one Option.some.injEq Option.getD_some List.length_replicate zArr List.map_replicate rep_ints splice_intsR List.length_set List.length_append List.flatten_replicate_singleton rep_slice rep_string rep_bool rep_iface List.replicate_zero if_pos if_neg List.mapM_cons List.mapM_nil Option.pure_def Option.bind_eq_bind Option.bind_some Bool.true_eq_false Bool.not_false Bool.not_true get_concat set_concat
open Go.Proofs
set_option linter.unusedVariables false
set_option linter.unusedSimpArgs false
set_option maxRecDepth 100000
set_option maxHeartbeats 4000000
theorem fewC_texts (v : Val) (h : fewC v = true) : textsV v := by
  obtain ⟨k, t, ns, vs⟩ := v
  simp only [fewC, gtB, Bool.and_eq_true, Bool.not_eq_true', Bool.or_eq_false_iff, decide_eq_false_iff_not, List.all_eq_true] at h
  obtain ⟨⟨g1, g2⟩, g3⟩ := h
  intro x hx
  have hx1 := g3 x hx
  obtain ⟨k', t', ns', vs'⟩ := x
  simp only [fewX, gtB, Bool.and_eq_true, Bool.not_eq_true', Bool.or_eq_false_iff, decide_eq_false_iff_not, List.all_eq_true] at hx1
  obtain ⟨⟨⟨j1, j2⟩, j3⟩, j4⟩ := hx1
  show t'.size ≤ 1000000
  omega
abbrev rowsA (l0 l1 : List Rule3) : AV := .agg [.vsl l0.length (rulesA l0) none, .vsl l1.length (rulesA l1) none]
theorem rows_nr (v : Val) (now : Int) (l0 l1 : List Rule3) : ∀ x ∈ [vA v, ivC now, rowsA l0 l1], NR x := by
  intro x hx
  simp only [List.mem_cons, List.not_mem_nil, or_false] at hx
  rcases hx with rfl | rfl | rfl
  · exact NR.vA v
  · exact NR.v _
  · refine NR.agg ?_
    intro x hx
    simp only [List.mem_cons, List.not_mem_nil, or_false] at hx
    rcases hx with rfl | rfl
    · exact NR.vsl (NR.rulesA _)
    · exact NR.vsl (NR.rulesA _)
theorem rows_few (v : Val) (hv : v.wf) (now : Int) (l0 l1 : List Rule3) (h : fewC v = false ∨ 10 < l0.length ∨ 10 < l1.length) : PCall Tryd.prog glob 3 [vA v, ivC now, rowsA l0 l1] (.v (.bool true)) := by
  refine PCall.of ctx.nr (rows_nr v now l0 l1) (NR.v _) ?_
  refine lcall3 (by simp) 0 (Nat.le_refl _) ?_
  have aw := awake_p
  have fp := fewC_p v hv
  obtain ⟨f, hf⟩ : ∃ f, fewC v = f := ⟨_, rfl⟩
  rw [hf] at fp h
  obtain ⟨k, t, ns, vs⟩ := v
  unfold vA at fp ⊢
  rw [Val.cells] at fp ⊢
  unfold lc3
  refine I1 tt ⟨?_⟩
  unfold rowsA
  cases f
  · refine G1 F4 tt (an aw.go (an fp.go tt)) tt tt ⟨?_⟩
    refine R1 tt ⟨?_⟩
    exact end0 (NR.v _) rfl
  by_cases h1 : 10 < l0.length
  · have d1 : decide ((l0.length : Int) > 10) = true := by rw [decide_eq_true_eq]; omega
    refine G1 F4 (an d1 tt) (an aw.go (an fp.go tt)) tt tt ⟨?_⟩
    refine R1 tt ⟨?_⟩
    exact end0 (NR.v _) rfl
  have d1 : decide ((l0.length : Int) > 10) = false := by rw [decide_eq_false_iff_not]; omega
  have h2 : 10 < l1.length := by
    rcases h with h | h | h
    · cases h
    · omega
    · exact h
  have d2 : decide ((l1.length : Int) > 10) = true := by rw [decide_eq_true_eq]; omega
  refine G1 F4 (an d1 (an d2 tt)) (an aw.go (an fp.go tt)) tt tt ⟨?_⟩
  refine R1 tt ⟨?_⟩
  exact end0 (NR.v _) rfl
theorem chkV_app (v : Val) (now : Int) (l m : List Rule3) (ws w0 w1 wn : Int) (h : chkV v now (l ++ m) = ws) (h0 : chkV v now l = w0) (h1 : chkV v now m = w1) (hn : chkV v now [] = wn) : (w0 = 0 → ws = w1 ∧ wn = 0) ∧ (w0 ≠ 0 → ws = w0) := by
  obtain ⟨k, t, ns, vs⟩ := v
  rw [chkV] at h h0 h1 hn
  by_cases hb : k ≠ 6 ∨ goodV (.mk k t ns vs) 1 ≠ 0
  · rw [if_pos hb] at h h0 h1 hn
    exact ⟨fun e => by omega, fun _ => by omega⟩
  · rw [if_neg hb] at h h0 h1 hn
    rw [chkAll_append, h0, h1] at h
    refine ⟨fun e => ?_, fun e => ?_⟩
    · rw [if_pos e] at h
      exact ⟨h.symm, hn.symm⟩
    · rw [if_neg e] at h
      exact h.symm
theorem rows_ok (v : Val) (hv : v.wf) (now : Int) (l0 l1 : List Rule3) (h0 : fewC v = true) (h1 : ¬ 10 < l0.length) (h2 : ¬ 10 < l1.length) : PCall Tryd.prog glob 3 [vA v, ivC now, rowsA l0 l1] (.v (.bool true)) := by
  refine PCall.of ctx.nr (rows_nr v now l0 l1) (NR.v _) ?_
  refine lcall3 (by simp) 0 (Nat.le_refl _) ?_
  have aw := awake_p
  have fp := fewC_p v hv
  have hs := fewC_small v hv h0
  have hx := fewC_texts v h0
  rw [h0] at fp
  have c0 := check_v v hs hx now l0 (by omega) none
  have c1 := check_v v hs hx now l1 (by omega) none
  have ca := fun c => check_v v hs hx now (l0 ++ l1) (by rw [List.length_append]; omega) c
  have cn := check_v v hs hx now [] (by decide) none
  have d1 : decide ((l0.length : Int) > 10) = false := by rw [decide_eq_false_iff_not]; omega
  have d2 : decide ((l1.length : Int) > 10) = false := by rw [decide_eq_false_iff_not]; omega
  have hr0 := rulesA_length l0
  have hr1 := rulesA_length l1
  have hra : rulesA l0 ++ rulesA l1 = rulesA (l0 ++ l1) := by simp [rulesA]
  obtain ⟨k, t, ns, vs⟩ := v
  unfold vA at fp c0 c1 ca cn ⊢
  rw [Val.cells] at fp c0 c1 ca cn ⊢
  unfold lc3
  refine I1 tt ⟨?_⟩
  unfold rowsA
  refine G1 F4 (an d1 (an d2 (an hr0 (an hr1 tt)))) (an aw.go (an fp.go (an c0.go (an c1.go tt)))) tt tt ⟨?_⟩
  have ot : ∀ p : Prop, (p ∨ True) = True := fun p => or_true p
  have ro : (rulesA l1).all AV.one = true := by
    simp [rulesA, AV.one, Value.oneCell']
  have ht0 : List.take (l0.length * 3) (rulesA l0) = rulesA l0 := List.take_of_length_le (by omega)
  have el : (l0 ++ l1).length = l0.length + l1.length := List.length_append
  obtain ⟨ws, hws⟩ : ∃ ws, chkV (.mk k t ns vs) now (l0 ++ l1) = ws := ⟨_, rfl⟩
  obtain ⟨w0, hw0⟩ : ∃ ws, chkV (.mk k t ns vs) now l0 = ws := ⟨_, rfl⟩
  obtain ⟨w1, hw1⟩ : ∃ ws, chkV (.mk k t ns vs) now l1 = ws := ⟨_, rfl⟩
  obtain ⟨wn, hwn⟩ : ∃ ws, chkV (.mk k t ns vs) now [] = ws := ⟨_, rfl⟩
  have key := chkV_app _ now l0 l1 ws w0 w1 wn hws hw0 hw1 hwn
  rw [hws, ← hra, el] at ca
  rw [hw0] at c0 ⊢
  rw [hw1] at c1 ⊢
  rw [hwn] at cn
  have ca2 : PCall Tryd.prog glob 8 [.agg [ivC k, stA t, .vsl ns.length (strs ns) none, .vsl vs.length (cellsL vs) none], ivC now, .vsl (l0.length + l1.length) (rulesA l0 ++ rulesA l1) none] (ivC ws) := ca none
  have cn2 : PCall Tryd.prog glob 8 [.agg [ivC k, stA t, .vsl ns.length (strs ns) none, .vsl vs.length (cellsL vs) none], ivC now, .v (.slice none 0 0)] (ivC wn) := cn.les ⟨AvLe.refl _, AvLe.refl _, AvLe.nil, trivial⟩
  refine lavc_lateq [.agg [ivC k, stA t, .vsl ns.length (strs ns) none, .vsl vs.length (cellsL vs) none], ivC now, .ptr 1 0 0, .vsl l0.length (rulesA l0) none, .ptr 1 0 1, .vsl l1.length (rulesA l1) none] ?_ ?_ <;> simp only [lputs, o1_d, o2_d, o3_d, o4_d, tput, List.set_cons_succ, List.set_cons_zero]
  · (simp only [lfreesAt]; repeat (first | exact trivial | (refine And.intro (by unfold lfreeAt; unfold aopO; simp (disch := first | exact dch | fail) only [go_sem, Nat.reduceAdd, Nat.reduceSub, reduceIte, Nat.reduceEqDiff, Int.reduceToNat, Int.reduceBEq, Int.reduceBNe]; (repeat (with_reducible refine And.intro acl ?_)); first | exact ⟨rfl, fun d h => by cases h; rfl⟩ | exact fun d h => by cases h; rfl | exact Or.inr ⟨rfl, fun d h => by cases h; rfl⟩ | exact Or.inr (fun d h => by cases h; rfl) | exact Or.inl ⟨rfl, fun d h => by cases h; rfl⟩) ?_)))
  · refine G1 F3 tt tt tt tt ⟨?_⟩
    repeat (first
      | ((with_reducible refine lopsF_step ?_ fun K hK => ?_); (case _ => (simp only [lfreesAt]; repeat (first | exact trivial | (refine And.intro (by unfold lfreeAt; unfold aopO; simp (disch := first | exact dch | fail) only [go_sem, Nat.reduceAdd, Nat.reduceSub, reduceIte, Nat.reduceEqDiff, Int.reduceToNat, Int.reduceBEq, Int.reduceBNe, hr0, hr1, ot, ro, ht0]; (repeat (with_reducible refine And.intro acl ?_)); first | exact ⟨rfl, fun d h => by cases h; rfl⟩ | exact fun d h => by cases h; rfl | exact Or.inr ⟨rfl, fun d h => by cases h; rfl⟩ | exact Or.inr (fun d h => by cases h; rfl) | exact Or.inl ⟨rfl, fun d h => by cases h; rfl⟩) ?_)))); with_reducible skip; simp (disch := first | exact dch | fail) only [go_sem, Nat.reduceAdd, Nat.reduceSub, reduceIte, Nat.reduceEqDiff, Int.reduceToNat, Int.reduceBEq, Int.reduceBNe, hr0, hr1, ot, ro, ht0]; (repeat (with_reducible refine And.intro acl ?_)); (first | (refine hK _ _ ?_) | (refine ⟨_, rfl, hK _ _ ?_⟩) | (refine Or.inr (hK _ _ ?_)) | (refine Or.inr ⟨rfl, hK _ _ ?_⟩)); clear hK K)
      | ((with_reducible refine lopsF_nil ?_ ?_); (case _ => (simp only [lfreesAt]; repeat (first | exact trivial | (refine And.intro (by unfold lfreeAt; unfold aopO; simp (disch := first | exact dch | fail) only [go_sem, Nat.reduceAdd, Nat.reduceSub, reduceIte, Nat.reduceEqDiff, Int.reduceToNat, Int.reduceBEq, Int.reduceBNe, hr0, hr1, ot, ro, ht0]; (repeat (with_reducible refine And.intro acl ?_)); first | exact ⟨rfl, fun d h => by cases h; rfl⟩ | exact fun d h => by cases h; rfl | exact Or.inr ⟨rfl, fun d h => by cases h; rfl⟩ | exact Or.inr (fun d h => by cases h; rfl) | exact Or.inl ⟨rfl, fun d h => by cases h; rfl⟩) ?_)))))
      | (with_reducible first | refine lavc_reg ?_ | refine lavc_seq ?_ | refine lavc_block ?_ | refine lavc_skip ?_ | refine lavc_exit ?_ | refine lavc_ret ?_ | refine lavcR_round ?_)
      | (simp only [↓reduceIte, Nat.reduceEqDiff, reduceCtorEq]))
    refine lopsN_step fun K hK => ?_
    (first | (simp (disch := first | exact dch | fail) only [go_sem, Nat.reduceAdd, Nat.reduceSub, reduceIte, Nat.reduceEqDiff, Int.reduceToNat, Int.reduceBEq, Int.reduceBNe, hr0, hr1]) | fail)
    (repeat (with_reducible refine And.intro acl ?_))
    refine ⟨_, _, Or.inl (PCall.live (r := ivC ws) [2] ?afz (Flat.v _)).weakQ, hK _ _ ?_⟩
    case afz =>
      have hfl : ([] : List (List AV)).flatten = [] := rfl
      have hlen : (rulesA l0 ++ rulesA l1).length = (l0.length + l1.length) * 3 := by rw [List.length_append]; omega
      have hta : List.take ((l0.length + l1.length) * 3) (rulesA l0 ++ rulesA l1) = rulesA l0 ++ rulesA l1 := List.take_of_length_le (by omega)
      simp (disch := first | exact dch | fail) only [afz, fzV, fzS, fz_ints, List.map_cons, List.map_nil, List.getElem?_cons_zero, List.getElem?_cons_succ, List.set_cons_zero, List.set_cons_succ, ints_length, true_and, and_true, and_self, if_true, if_false, ↓reduceIte, Nat.reduceEqDiff, Nat.reduceLeDiff, Nat.reduceMul, Nat.reduceAdd, Nat.zero_add, Nat.mul_one, Nat.le_refl, List.length_replicate, List.drop_zero, ints_drop, ints_take, List.take_of_length_le, false_and, and_false, reduceCtorEq, Bool.false_eq_true, forall_const, if_pos, if_neg, hfl, List.nil_append, ht0, hta, hlen]
      (repeat (with_reducible refine And.intro acl ?_))
      exact ca2
    clear hK K
    obtain ⟨k1, k2⟩ := key
    by_cases hz : w0 = 0
    · obtain ⟨rfl, rfl⟩ := k1 hz
      subst hz
      have q : (ws == ws) = true := by simp
      refine G1 F1 tt tt tt tt ⟨?_⟩
      refine G1 F4 (an q tt) (an cn2.go tt) tt tt ⟨?_⟩
      refine R1 tt ⟨?_⟩
      exact end0 (NR.v _) rfl
    · obtain rfl := k2 hz
      have q0 : ((ws : Int) != 0) = true := by rw [bne_iff_ne, ne_eq]; omega
      have q : (ws == ws) = true := by simp
      refine G1 F1 (an q0 tt) tt tt tt ⟨?_⟩
      refine G1 F4 (an q0 (an q tt)) tt tt tt ⟨?_⟩
      refine R1 tt ⟨?_⟩
      exact end0 (NR.v _) rfl
theorem rows_p (v : Val) (hv : v.wf) (now : Int) (l0 l1 : List Rule3) : PCall Tryd.prog glob 3 [vA v, ivC now, rowsA l0 l1] (.v (.bool true)) := by
  by_cases h0 : fewC v = true
  · by_cases h1 : 10 < l0.length
    · exact rows_few v hv now l0 l1 (.inr (.inl h1))
    by_cases h2 : 10 < l1.length
    · exact rows_few v hv now l0 l1 (.inr (.inr h2))
    exact rows_ok v hv now l0 l1 h0 h1 h2
  · exact rows_few v hv now l0 l1 (.inl (by simpa using h0))
/-- Rules, as they are read. -/
abbrev R3 : Rd (Int × ByteArray × ByteArray × Unit) := Rd.pair (Rd.int .i64) (Rd.pair Rd.str (Rd.pair Rd.str Rd.unit))
def r3 (x : Int × ByteArray × ByteArray × Unit) : Rule3 := (x.1, x.2.1, x.2.2.1)
theorem rules_flat : ∀ l : List (Int × ByteArray × ByteArray × Unit), l.flatMap R3.av = rulesA (l.map r3)
  | [] => rfl
  | x :: l => by
    rw [List.flatMap_cons, rules_flat l, List.map_cons]
    rfl
theorem rows_law (v : Val) (hv : v.wf) (now : Int) (x y : List (Int × ByteArray × ByteArray × Unit)) : PCall Tryd.prog glob 3 [vA v, ivC now, .agg ([x, y].flatMap R3.slice.av)] (.v (.bool true)) := by
  have h := rows_p v hv now (x.map r3) (y.map r3)
  have e : [x, y].flatMap R3.slice.av = [.vsl (x.map r3).length (rulesA (x.map r3)) none, .vsl (y.map r3).length (rulesA (y.map r3)) none] := by
    show [AV.vsl x.length (x.flatMap R3.av) none, AV.vsl y.length (y.flatMap R3.av) none] = _
    rw [rules_flat, rules_flat, List.length_map, List.length_map]
  rw [e]
  exact h
end Go.Abs.S
namespace Go.Proofs.YtgmchiadphdlhaaDoor.claimRows
open Go.ChangeShapes Go.WideShapes Go.ChangeAt Go.RowKit
open Go.ChangeMaps (open_string shut_string)
open Go.Abs (AV AR lawSig)
set_option linter.unusedVariables false
set_option linter.unusedSimpArgs false
theorem own : ownKnob Tryd.prog.godebug = none := by kernel_rfl
theorem laidOut : laidOutB Tryd.prog = true := by kernel_rfl
theorem gl_of {W : World} (h : laidMetH Tryd.prog Rows.claimRowsRow.laid W) (g : Nat) : AR (lawSig W) W (Go.Abs.S.glob g) (.pointer (some ⟨g, 0, none⟩)) := by
  rw [MakeChecks.laidMetH_plain _ _ _ (by kernel_rfl)] at h
  unfold Go.Abs.S.glob
  by_cases e0 : g = 0
  · subst e0
    rw [if_pos rfl]
    exact Go.Abs.laid_ar (fun i => LaidCells.laid_cell h (n := "escutcheon/hour.months") (d := Rows.laid_escutcheon_hour_months) (by simp [Rows.claimRowsRow]) (g := 0) (t := 94) (k := 8) (l := Go.Abs.S.cells_escutcheon_hour_months) (by kernel_rfl) (by kernel_rfl) (by kernel_rfl) i) (of_decide_eq_true (by kernel_rfl)) Go.Abs.S.glob_escutcheon_hour_months
  rw [if_neg e0]
  by_cases e1 : g = 1
  · subst e1
    rw [if_pos rfl]
    exact Go.Abs.laid_ar (fun i => LaidCells.laid_cell h (n := "unicode/utf8.first") (d := Rows.laid_unicode_utf8_first) (by simp [Rows.claimRowsRow]) (g := 1) (t := 115) (k := 8) (l := Go.Abs.S.cells_unicode_utf8_first) (by kernel_rfl) (by kernel_rfl) (by kernel_rfl) i) (of_decide_eq_true (by kernel_rfl)) Go.Abs.S.glob_unicode_utf8_first
  rw [if_neg e1]
  by_cases e2 : g = 2
  · subst e2
    rw [if_pos rfl]
    exact Go.Abs.laid_ar (fun i => LaidCells.laid_cell h (n := "unicode/utf8.acceptRanges") (d := Rows.laid_unicode_utf8_acceptRanges) (by simp [Rows.claimRowsRow]) (g := 2) (t := 118) (k := 8) (l := Go.Abs.S.cells_unicode_utf8_acceptRanges) (by kernel_rfl) (by kernel_rfl) (by kernel_rfl) i) (of_decide_eq_true (by kernel_rfl)) Go.Abs.S.glob_unicode_utf8_acceptRanges
  rw [if_neg e2]
  by_cases e3 : g = 3
  · subst e3
    rw [if_pos rfl]
    exact Go.Abs.laid_ar (fun i => LaidCells.laid_cell h (n := "internal/strconv.uint64pow10") (d := Rows.laid_internal_strconv_uint64pow10) (by simp [Rows.claimRowsRow]) (g := 3) (t := 128) (k := 8) (l := Go.Abs.S.cells_internal_strconv_uint64pow10) (by kernel_rfl) (by kernel_rfl) (by kernel_rfl) i) (of_decide_eq_true (by kernel_rfl)) Go.Abs.S.glob_internal_strconv_uint64pow10
  rw [if_neg e3]
  by_cases e7 : g = 7
  · subst e7
    rw [if_pos rfl]
    exact Go.Abs.laid_ar (fun i => LaidCells.laid_cell h (n := "math/bits.deBruijn32tab") (d := Rows.laid_math_bits_deBruijn32tab) (by simp [Rows.claimRowsRow]) (g := 7) (t := 144) (k := 8) (l := Go.Abs.S.cells_math_bits_deBruijn32tab) (by kernel_rfl) (by kernel_rfl) (by kernel_rfl) i) (of_decide_eq_true (by kernel_rfl)) Go.Abs.S.glob_math_bits_deBruijn32tab
  rw [if_neg e7]
  by_cases e8 : g = 8
  · subst e8
    rw [if_pos rfl]
    exact Go.Abs.laid_ar (fun i => LaidCells.laid_cell h (n := "math/bits.deBruijn64tab") (d := Rows.laid_math_bits_deBruijn64tab) (by simp [Rows.claimRowsRow]) (g := 8) (t := 145) (k := 8) (l := Go.Abs.S.cells_math_bits_deBruijn64tab) (by kernel_rfl) (by kernel_rfl) (by kernel_rfl) i) (of_decide_eq_true (by kernel_rfl)) Go.Abs.S.glob_math_bits_deBruijn64tab
  rw [if_neg e8]
  exact AR.any _
set_option maxRecDepth 100000 in
theorem lifted (os : Os) (started : os.Started) (H : Type) (enc : TypeId × Value → H) :
    ReturnsInHanded {} Tryd.checked os 3 .any (fun w args => (Rows.claimRowsSpec.pre enc Tryd.prog Tryd.f3 [] false w args ∧ laidMetH Tryd.prog Rows.claimRowsRow.laid w) ∧ sizedMet enc Tryd.prog Tryd.f3 (OpenSpec.ofChange Rows.claimRowsSpec) false w args)
      (Rows.claimRowsSpec.post enc Tryd.prog Tryd.f3 false true false false) := by
  refine returnsInHanded_of_change_and (C := Tryd.checked) (X := fun w _ => laidMetH Tryd.prog Rows.claimRowsRow.laid w) (fun _ _ _ hh h => h.of_heap hh) own started (by kernel_rfl) Tryd.func3
    (ChangeSpec.witness_shaped (enc := enc) (C := Tryd.checked) (os := os) (X := fun w _ => laidMetH Tryd.prog Rows.claimRowsRow.laid w) false (World.laidAll Tryd.prog os Rows.claimRowsRow.laid) #[.agg #[.int .i64 0, .string ByteArray.empty, .slice none 0 0, .slice none 0 0], .int .i64 0, .agg (Array.replicate 2 (.slice none 0 0))] 8 (World.laidAll_os _ _ _) (World.shaped_of_ZipB (by kernel_rfl) (by kernel_rfl)) (by kernel_rfl) (by kernel_rfl) (by kernel_rfl) (by rw [MakeChecks.laidMetH_plain _ _ _ (by kernel_rfl)]; exact laidMet_laidAll _ (by kernel_rfl) (by kernel_rfl))) ?_
  intro W base args ds gs before hval0 hW _ hsz0 hL _
  have hval : ∀ (j : Nat) t v, Tryd.f3.params[j]? = some t → args[j]? = some v → Value.okWide Tryd.prog W .any base t v := hval0
  have hW' := hW
  obtain ⟨p, q, hA0, hV, rfl, hfz, hnd⟩ := hW
  have hA : DataW.TrodAll enc Tryd.prog W 0 (fun _ => true) true Tryd.f3.params.toList args.toList ds p := hA0
  rw [Tryd.params3] at hA hval
  obtain ⟨v0, vs0, d0, ds0, p0, q0, hargs, rfl, rfl, h0, r0⟩ := trodAll_cons hA
  obtain ⟨v1, vs1, d1, ds1, p1, q1, rfl, rfl, rfl, h1, r1⟩ := trodAll_cons r0
  obtain ⟨v2, vs2, d2, ds2, p2, q2, rfl, rfl, rfl, h2, r2⟩ := trodAll_cons r1
  obtain ⟨rfl, rfl, rfl⟩ := trodAll_nil r2
  obtain rfl : args = #[v0, v1, v2] := by cases args; simp_all
  obtain ⟨rfl, rfl⟩ := trodVars_none hV
  have k0 := h0
  have lt0 : ∀ x ∈ p0, x.block < W.heap.size := by obtain ⟨m, hm⟩ := k0; exact DataW.trod_lt m _ _ _ hm
  obtain ⟨us0, rfl⟩ := Go.Abs.okWide_struct Tryd.underlying26 (hval 0 26 v0 rfl rfl)
  obtain ⟨l0, w0, a0⟩ := Go.Abs.Rd.argN (r := Go.Abs.Rd.val) (Go.Abs.Rd.val_is (fun f => Go.Abs.val_at Tryd.underlying26 (by kernel_rfl) rfl rfl rfl rfl (by kernel_rfl) (by kernel_rfl) (by kernel_rfl) (by kernel_rfl) Tryd.underlying22 Tryd.underlying9 Tryd.underlying23 Tryd.underlying9 (by kernel_rfl) Tryd.underlying24 f)) h0
  obtain ⟨l1, rfl, rfl, rfl, w1⟩ := open_int Tryd.underlying3 (hval 1 3 v1 rfl rfl) h1
  have z1 := w1
  simp [Lit.wf, IntKind.min, IntKind.max, IntKind.signed, IntKind.bits] at z1
  have k2 := h2
  have lt2 : ∀ x ∈ p2, x.block < W.heap.size := by obtain ⟨m, hm⟩ := k2; exact DataW.trod_lt m _ _ _ hm
  obtain ⟨us2, rfl⟩ := Go.Abs.okWide_agg Tryd.underlying28 (hval 2 28 v2 rfl rfl)
  obtain ⟨l2, ⟨m2, w2⟩, a2⟩ := Go.Abs.Rd.argN (r := ((Go.Abs.Rd.pair (Go.Abs.Rd.int .i64) (Go.Abs.Rd.pair Go.Abs.Rd.str (Go.Abs.Rd.pair Go.Abs.Rd.str Go.Abs.Rd.unit))).slice.arr 2)) (Go.Abs.Rd.arr_is Tryd.underlying28 (by kernel_rfl) (by kernel_rfl) (Go.Abs.Rd.slice_is Tryd.underlying27 (by kernel_rfl) (by decide) (Go.Abs.Rd.struct_is Tryd.underlying40 (by kernel_rfl) (fun _ _ => trivial) (Go.Abs.Rd.fields_cons rfl (by kernel_rfl) (Go.Abs.Rd.int_is Tryd.underlying38) (Go.Abs.Rd.fields_cons rfl (by kernel_rfl) (Go.Abs.Rd.str_is Tryd.underlying9) (Go.Abs.Rd.fields_cons rfl (by kernel_rfl) (Go.Abs.Rd.str_is Tryd.underlying9) (Go.Abs.Rd.fields_nil _))))))) h2
  simp only [Go.Abs.rd_slice, Go.Abs.rd_arr, Go.Abs.flat_ints, Go.Abs.flat_rows, Go.Abs.flat_strs, Go.Abs.flat_vals] at a2
  clear hA0 hval0 hsz0
  refine (Go.Abs.ACall.law (b := true) (G := Go.Abs.S.glob) (args := [AV.agg l0.cells, AV.v (.int .i64 l1), AV.agg (l2.flatMap (Go.Abs.Rd.pair (Go.Abs.Rd.int .i64) (Go.Abs.Rd.pair Go.Abs.Rd.str (Go.Abs.Rd.pair Go.Abs.Rd.str Go.Abs.Rd.unit))).slice.av)]) ((by obtain ⟨x0, x1, rfl⟩ : ∃ a b, l2 = [a, b] := (match l2, m2 with | [a, b], _ => ⟨a, b, rfl⟩); exact Go.Abs.S.rows_law l0 w0 l1 x0 x1 [])) rfl ?_ (gl_of hL)).mono fun e W' ⟨he, hbel⟩ => ?_
  · intro j hj
    match j, hj with
    | 0, _ => exact a0
    | 1, _ => exact AR.v _
    | 2, _ => exact a2
  have bel : Below W.heap.size W W' := hbel
  subst he
  exact ⟨_, rfl, _, _, _, [], _, [], hW', trodAll_mk1 (shut_bool Tryd.underlying4 _), (trodAll_cons_mk (Below.trod laidOut (by kernel_rfl) (of_decide_eq_true (by kernel_rfl)) k0 bel lt0) (trodAll_cons_mk (shut_int Tryd.underlying3 w1) (trodAll_cons_mk (Below.trod laidOut (by kernel_rfl) (of_decide_eq_true (by kernel_rfl)) k2 bel lt2) trodAll_mk0))), rfl, bel.frame _, fun h => by cases h⟩
theorem over : Rows.claimRowsRow.holds Tryd.pinned (OpenSpec.ofChange Rows.claimRowsSpec) :=
  OpenClaim.holds_of_wide 3 Tryd.f3 rfl rfl rfl rfl rfl rfl rfl ⟨rfl, rfl, rfl, rfl, rfl⟩ rfl rfl rfl rfl rfl (by kernel_rfl) Tryd.func3 (by kernel_rfl)
    (of_decide_eq_true (by kernel_rfl)) (by unfold Func.isWrapper; first | (rw [if_pos (by decide +kernel)]; kernel_rfl) | (rw [if_neg (by decide +kernel)]; exact ⟨rfl, rfl⟩))
    (fun os started H enc _ => lifted os started H enc)
theorem card : Rows.ClaimRowsCardSaid :=
  Claim7.holds_tied_plain_at .later [] [.data, .data, .data, .data, .sentinel, .sentinel, .data, .pinned] true (true, "5c630d77956728696dd087655ef91e1eecc44bf6940e2b6faeeed3046e015fb0") true
    over (fun _ h => by cases h) (by kernel_rfl) (fun _ h => by cases h) claimRows_row_tie rfl ⟨rfl, rfl⟩ (by kernel_rfl) rfl
    (fun f fn hf hfn => by
      obtain rfl : f = 3 := Option.some.inj ((show Tryd.prog.funcNamed "escutcheon/escutcheonlaw22.ClaimRows" = some 3 by kernel_rfl).symm.trans hf) |>.symm
      obtain rfl : fn = Tryd.f3 := (Option.some.inj (Tryd.func3.symm.trans hfn)).symm
      refine ⟨by kernel_rfl, fun j t ht => ?_⟩
      rw [Tryd.params3] at ht
      rcases j with _ | j
      · obtain rfl : t = 26 := by simpa using ht.symm
        exact (show Tryd.prog.wantsStandIn 26 = false by kernel_rfl)
      rcases j with _ | j
      · obtain rfl : t = 3 := by simpa using ht.symm
        exact (show Tryd.prog.wantsStandIn 3 = false by kernel_rfl)
      rcases j with _ | j
      · obtain rfl : t = 28 := by simpa using ht.symm
        exact (show Tryd.prog.wantsStandIn 28 = false by kernel_rfl)
      · simp at ht)
    (by kernel_rfl)
#print axioms card
end Go.Proofs.YtgmchiadphdlhaaDoor.claimRows
namespace Go.Proofs.YtgmchiadphdlhaaDoor
/-- The statement, under a short name, for the claim. -/
theorem claimRows_holds : Rows.ClaimRowsCardSaid := claimRows.card
end Go.Proofs.YtgmchiadphdlhaaDoor
