/- page: a value. page.Parse. Values whose values' texts are read as times. page: how large what is read can be. Code, as it is looked at; written by wip/leancode.py. page.Print; the document's example.  -/
import Derived.Test.YtdbpaahdonplbaaGreatDoorJQ6
import Derived.Test.YtdbpaahdonplbaaGreatDoorJQ4
import Derived.Test.YtdbpaahdonplbaaGreatDoorJQ5
import Derived.Test.YtdbpaahdonplbaaGreatDoorJQ3
import Derived.Carry
import Derived.FnData
import Derived.KernelRfl
import Derived.MakeChecks
import Derived.OpenShut
import Derived.ProofKit
namespace Go.Abs.S
attribute [local go_sem] lguard aopO aop aenv toAV tput aLoad aStore vcells aBin aNilI aUn aAlloc aBox aBuild aBSlice afill aConv isIntT aappZ aCap aArr aMM aMake aSlice bnd3 bnd aFldAddr aFld aIdxAddr aIdx aExt aLen aCopy aEq0 bAV aUb aapp aappQ agh acont List.getD_cons_zero List.getD_cons_succ List.set_cons_zero List.set_cons_succ List.getElem?_cons_zero List.getElem?_cons_succ List.length_cons List.length_nil List.map_cons List.map_nil ints_length if_true if_false Bool.false_eq_true true_and and_true eq_self ne_eq not_false_eq_true not_true_eq_false beq_self_eq_true Nat.zero_add Nat.add_zero Nat.mul_one Nat.zero_mul Int.toNat_natCast List.toList_toArray List.all_cons List.all_nil AV.one Value.oneCell' Bool.and_true Bool.true_and forall_const true_implies false_implies implies_true Option.map_some Option.map_none Option.isSome_some Option.isSome_none imp_self rdP_flat rdP_row splice_one ints_set ints_get List.append_nil List.cons_append List.nil_append List.getElem?_toArray List.drop_zero ints_drop ints_take List.take_of_length_le splice_all ints_one Option.some.injEq Option.getD_some List.length_replicate zArr List.map_replicate rep_ints splice_intsR List.length_set List.length_append List.flatten_replicate_singleton rep_slice rep_string rep_bool rep_iface List.replicate_zero if_pos if_neg List.mapM_cons List.mapM_nil Option.pure_def Option.bind_eq_bind Option.bind_some Bool.true_eq_false Bool.not_false Bool.not_true get_concat set_concat
open Go.Proofs
set_option linter.unusedVariables false
set_option linter.unusedSimpArgs false
set_option maxRecDepth 100000
set_option maxHeartbeats 8000000
theorem sep_len (p : List UInt8) (e : Int) (s : St) : (if p.isPrefixOf s.1 = true then takeP p s else giveP e s).1.length ≤ s.1.length := by
  split
  · exact take_len _ _
  · exact give_len _ _
theorem parts_len (V : St → Val × St) (kind : Int) (shut : List UInt8) (hz : ∀ s, (V s).2.1.length ≤ s.1.length) : ∀ (n : Nat) (ns : List ByteArray) (vs : List Val) (s : St), (partsP V kind shut n ns vs s).2.1.length ≤ s.1.length
  | 0, ns, vs, s => Nat.le_refl _
  | n + 1, ns, vs, s => by
    rw [partsP]
    split
    · exact Nat.le_refl _
    · simp only
      have h1 : (if 64 ≤ vs.length then giveP 11 s else s).1.length ≤ s.1.length := by
        split
        · exact give_len _ _
        · exact Nat.le_refl _
      obtain ⟨s1, hs1⟩ : ∃ x, (if 64 ≤ vs.length then giveP 11 s else s) = x := ⟨_, rfl⟩
      rw [hs1] at h1 ⊢
      have h2 : (if kind = 6 then (nameP ns s1).2 else s1).1.length ≤ s1.1.length := by
        split
        · exact name_len _ _
        · exact Nat.le_refl _
      obtain ⟨s2, hs2⟩ : ∃ x, (if kind = 6 then (nameP ns s1).2 else s1) = x := ⟨_, rfl⟩
      rw [hs2] at h2 ⊢
      have h3 := hz s2
      have h4 := blanks_len (V s2).2
      split
      · have := take_len shut (blanksP (V s2).2)
        simp only
        omega
      · refine Nat.le_trans (parts_len V kind shut hz n _ _ _) ?_
        have := sep_len [44] 2 (blanksP (V s2).2)
        omega
theorem parts_fail (V : St → Val × St) (kind : Int) (shut : List UInt8) (n : Nat) (ns : List ByteArray) (vs : List Val) (s : St) (h : s.2 ≠ 0) : (partsP V kind shut n ns vs s).2.2 ≠ 0 := by
  cases n with
  | zero => exact h
  | succ n =>
    rw [partsP, if_pos h]
    exact h
theorem partsR_len (V : St → Val × St) (kind : Int) (shut : List UInt8) (hz : ∀ s, (V s).2.1.length ≤ s.1.length) (s : St) : (partsR V kind shut s).2.1.length ≤ s.1.length := by
  unfold partsR
  split
  · exact Nat.le_trans (take_len _ _) (blanks_len _)
  · exact Nat.le_trans (parts_len V kind shut hz _ _ _ _) (blanks_len _)
theorem partsR_fail (V : St → Val × St) (kind : Int) (shut : List UInt8) (s : St) (h : s.2 ≠ 0) : (partsR V kind shut s).2.2 ≠ 0 := by
  unfold partsR
  split
  · exact h
  · exact parts_fail _ _ _ _ _ _ _ h
theorem value_len : ∀ (n : Nat) (d : Int) (s : St), (valueP n d s).2.1.length ≤ s.1.length
  | 0, d, s => Nat.le_refl _
  | n + 1, d, s => by
    rw [valueP]
    have h0 := blanks_len s
    have h1 : (if 8 < d ∧ (blanksP s).1 ≠ [] then giveP 9 (blanksP s) else blanksP s).1.length ≤ (blanksP s).1.length := by
      split
      · exact give_len _ _
      · exact Nat.le_refl _
    obtain ⟨s2, hs2⟩ : ∃ x, (if 8 < d ∧ (blanksP s).1 ≠ [] then giveP 9 (blanksP s) else blanksP s) = x := ⟨_, rfl⟩
    rw [hs2] at h1 ⊢
    have ht : ∀ p, (takeP p s2).1.length ≤ s.1.length := fun p => by
      have := take_len p s2
      omega
    split
    · exact ht _
    split
    · exact ht _
    split
    · exact ht _
    split
    · exact Nat.le_trans (text_len _ _ _) (ht _)
    split
    · exact Nat.le_trans (partsR_len _ _ _ (value_len n _) _) (ht _)
    split
    · exact Nat.le_trans (partsR_len _ _ _ (value_len n _) _) (ht _)
    split
    · have := give_len 2 s2
      show (giveP 2 s2).1.length ≤ _
      omega
    · show (s2.1.drop _).length ≤ _
      rw [List.length_drop]
      omega
theorem value_fail (n : Nat) (d : Int) (s : St) (h : s.2 ≠ 0) : (valueP n d s).2.2 ≠ 0 := by
  cases n with
  | zero => exact h
  | succ n =>
    rw [valueP]
    have h1 : (if 8 < d ∧ (blanksP s).1 ≠ [] then giveP 9 (blanksP s) else blanksP s).2 ≠ 0 := by
      split
      · exact give_fail _ _ h
      · exact h
    obtain ⟨s2, hs2⟩ : ∃ x, (if 8 < d ∧ (blanksP s).1 ≠ [] then giveP 9 (blanksP s) else blanksP s) = x := ⟨_, rfl⟩
    rw [hs2] at h1 ⊢
    have ht : ∀ p, (takeP p s2).2 ≠ 0 := fun p => h1
    split
    · exact ht _
    split
    · exact ht _
    split
    · exact ht _
    split
    · show (textR (takeP [34] s2)).2.2 ≠ 0
      rw [text_fail _ (ht _)]
      exact ht _
    split
    · exact partsR_fail _ _ _ _ (ht _)
    split
    · exact partsR_fail _ _ _ _ (ht _)
    split
    · exact give_fail _ _ h1
    · exact h1
theorem nuL_le (l : List UInt8) : nuL l ≤ l.length := by
  unfold nuL
  split
  · exact Nat.zero_le _
  · have h1 := intL_le l (sgL l) (sgL_le l)
    cases h2 : fracL l (sgL l + intL l (sgL l)) with
    | none => exact Nat.zero_le _
    | some b =>
      have h3 := fracL_le l _ b h1 h2
      rw [Option.bind_some]
      cases h4 : powL l b with
      | none => exact Nat.zero_le _
      | some c => exact powL_le l b c h3 h4
theorem value_m : ∀ (n : Nat) (d : Int), d + n = 11 → 2 ≤ n → 1 ≤ d → ∀ s : St, s.1.length ≤ 1000000 → (s.2 ≠ 0 → s.1 = []) →
    MCall Tryz.prog glob 19 [ivC d] (RB s) (vA (valueP n d s).1) (RB (valueP n d s).2)
  | 0, _, _, h, _ => absurd h (by decide)
  | n + 1, d, hdn, hn2, hd1 => fun s hs hok => by
    refine MCall.of ctx.nr rfl rfl nrs (NR.vA _) (RB.nr _) (RB.nr _) ?_
    refine lcall19 (by simp) 1 (Nat.le_refl _) ?_
    unfold lc19
    refine I1 tt ⟨?_⟩
    obtain ⟨W, hW⟩ : ∃ W, valueP (n + 1) d s = W := ⟨_, rfl⟩
    rw [hW]
    rw [valueP] at hW
    have b1 := blanks_m s
    have z1 := blanks_len s
    have o1 := blanks_ok s hok
    obtain ⟨⟨l1, f1⟩, hs1⟩ : ∃ x, blanksP s = x := ⟨_, rfl⟩
    rw [hs1] at b1 z1 o1 hW
    have o1 : f1 ≠ 0 → l1 = [] := o1
    have z1 : l1.length ≤ s.1.length := z1
    try simp only at hW
    have w1 : IntKind.i64.wrap 1 = 1 := by decide
    have w2 : IntKind.i64.wrap 2 = 2 := by decide
    have w3 : IntKind.i64.wrap 3 = 3 := by decide
    have w4 : IntKind.i64.wrap (0 + 1) = 1 := by decide
    have w5 : IntKind.i64.wrap (1 + 1) = 2 := by decide
    have w6 : IntKind.i64.wrap (2 + 1) = 3 := by decide
    by_cases h8 : 8 < d
    · -- too deep
      have tk : ∀ (p : List UInt8) (f : Int), p ≠ [] → MCall Tryz.prog glob 32 [.v (.string (bs p))] (RB ([], f)) (.v (.bool false)) (RB ([], f)) := fun p f hp => take_n p [] f (by cases p with | nil => exact absurd rfl hp | cons a p => rfl)
      have np : PCall Tryz.prog glob 35 [.v (.string (bs []))] (ivC 0) := pnum_p [] (by decide)
      have d8 : decide (d > 8) = true := by rw [decide_eq_true_eq]; omega
      cases l1 with
      | nil =>
        have q1 : decide (([] : List UInt8) = (⟨#[]⟩ : ByteArray).toList) = true := by rw [eq_nil]; rfl
        have hW : (default, giveP 2 ([], f1)) = W := by
          rw [← hW, if_neg (show ¬ (8 < d ∧ ([] : List UInt8) ≠ []) from fun h => h.2 rfl)]
          rfl
        subst hW
        have t0 : MCall Tryz.prog glob 32 [.v (.string ⟨#[110, 117, 108, 108]⟩)] (RB ([], f1)) (.v (.bool false)) (RB ([], f1)) := tk nullB _ (by decide)
        have t1 : MCall Tryz.prog glob 32 [.v (.string ⟨#[102, 97, 108, 115, 101]⟩)] (RB ([], f1)) (.v (.bool false)) (RB ([], f1)) := tk falseB _ (by decide)
        have t2 : MCall Tryz.prog glob 32 [.v (.string ⟨#[116, 114, 117, 101]⟩)] (RB ([], f1)) (.v (.bool false)) (RB ([], f1)) := tk trueB _ (by decide)
        have t3 : MCall Tryz.prog glob 32 [.v (.string ⟨#[34]⟩)] (RB ([], f1)) (.v (.bool false)) (RB ([], f1)) := tk [34] _ (by decide)
        have t4 : MCall Tryz.prog glob 32 [.v (.string ⟨#[91]⟩)] (RB ([], f1)) (.v (.bool false)) (RB ([], f1)) := tk [91] _ (by decide)
        have t5 : MCall Tryz.prog glob 32 [.v (.string ⟨#[123]⟩)] (RB ([], f1)) (.v (.bool false)) (RB ([], f1)) := tk [123] _ (by decide)
        have gm := give_m 2 ([], f1)
        repeat (first
          | (with_reducible refine lops_step fun K hK => ?_; simp (disch := first | exact dch | fail) only [go_sem, Nat.reduceAdd, Nat.reduceSub, reduceIte, Nat.reduceEqDiff, Int.reduceToNat, Int.reduceBEq, Int.reduceBNe, d8, q1]; (try (first | (refine And.intro (fun _ => ?_) (fun h => absurd h (by decide))) | (refine And.intro (fun h => absurd h (by decide)) (fun _ => ?_)))); (repeat (with_reducible refine And.intro acl ?_)); (first | (refine hK _ _ ?_) | (refine ⟨_, rfl, hK _ _ ?_⟩) | (refine Or.inl (hK _ _ ?_)) | (refine ⟨_, _, Or.inl (b1.go _ _ rfl), (by first | exact ⟨[], (List.append_nil _).symm⟩ | exact ⟨_, rfl⟩), hK _ _ ?_⟩) | (refine ⟨_, _, Or.inl (b1.go _ _ rfl), hK _ _ ?_⟩) | (refine ⟨_, _, Or.inl (b1.go _ _ rfl).weakQ, hK _ _ ?_⟩) | (refine ⟨_, _, Or.inl (t0.go _ _ rfl), (by first | exact ⟨[], (List.append_nil _).symm⟩ | exact ⟨_, rfl⟩), hK _ _ ?_⟩) | (refine ⟨_, _, Or.inl (t0.go _ _ rfl), hK _ _ ?_⟩) | (refine ⟨_, _, Or.inl (t0.go _ _ rfl).weakQ, hK _ _ ?_⟩) | (refine ⟨_, _, Or.inl (t1.go _ _ rfl), (by first | exact ⟨[], (List.append_nil _).symm⟩ | exact ⟨_, rfl⟩), hK _ _ ?_⟩) | (refine ⟨_, _, Or.inl (t1.go _ _ rfl), hK _ _ ?_⟩) | (refine ⟨_, _, Or.inl (t1.go _ _ rfl).weakQ, hK _ _ ?_⟩) | (refine ⟨_, _, Or.inl (t2.go _ _ rfl), (by first | exact ⟨[], (List.append_nil _).symm⟩ | exact ⟨_, rfl⟩), hK _ _ ?_⟩) | (refine ⟨_, _, Or.inl (t2.go _ _ rfl), hK _ _ ?_⟩) | (refine ⟨_, _, Or.inl (t2.go _ _ rfl).weakQ, hK _ _ ?_⟩) | (refine ⟨_, _, Or.inl (t3.go _ _ rfl), (by first | exact ⟨[], (List.append_nil _).symm⟩ | exact ⟨_, rfl⟩), hK _ _ ?_⟩) | (refine ⟨_, _, Or.inl (t3.go _ _ rfl), hK _ _ ?_⟩) | (refine ⟨_, _, Or.inl (t3.go _ _ rfl).weakQ, hK _ _ ?_⟩) | (refine ⟨_, _, Or.inl (t4.go _ _ rfl), (by first | exact ⟨[], (List.append_nil _).symm⟩ | exact ⟨_, rfl⟩), hK _ _ ?_⟩) | (refine ⟨_, _, Or.inl (t4.go _ _ rfl), hK _ _ ?_⟩) | (refine ⟨_, _, Or.inl (t4.go _ _ rfl).weakQ, hK _ _ ?_⟩) | (refine ⟨_, _, Or.inl (t5.go _ _ rfl), (by first | exact ⟨[], (List.append_nil _).symm⟩ | exact ⟨_, rfl⟩), hK _ _ ?_⟩) | (refine ⟨_, _, Or.inl (t5.go _ _ rfl), hK _ _ ?_⟩) | (refine ⟨_, _, Or.inl (t5.go _ _ rfl).weakQ, hK _ _ ?_⟩) | (refine ⟨_, _, Or.inl (np.go _), (by first | exact ⟨[], (List.append_nil _).symm⟩ | exact ⟨_, rfl⟩), hK _ _ ?_⟩) | (refine ⟨_, _, Or.inl (np.go _), hK _ _ ?_⟩) | (refine ⟨_, _, Or.inl (np.go _).weakQ, hK _ _ ?_⟩) | (refine ⟨_, _, Or.inl (gm.go _ _ rfl), (by first | exact ⟨[], (List.append_nil _).symm⟩ | exact ⟨_, rfl⟩), hK _ _ ?_⟩) | (refine ⟨_, _, Or.inl (gm.go _ _ rfl), hK _ _ ?_⟩) | (refine ⟨_, _, Or.inl (gm.go _ _ rfl).weakQ, hK _ _ ?_⟩)); clear hK K)
          | (with_reducible refine lops_nil ?_)
          | (with_reducible first | refine lavc_reg ?_ | refine lavc_seq ?_ | refine lavc_block ?_ | refine lavc_skip ?_ | refine lavc_exit ?_ | refine lavc_ret ?_ | refine lavcR_round ?_)
          | (refine lavc_cond rfl (fun _ => ?_) (fun hc => absurd hc (by decide)))
          | (refine lavc_cond rfl (fun hc => absurd hc (by decide)) (fun _ => ?_))
          | (simp only [↓reduceIte, Nat.reduceEqDiff, reduceCtorEq]))
        refine lavc_rounds 4 ?_
        repeat (first
          | (with_reducible refine lops_step fun K hK => ?_; simp (disch := first | exact dch | fail) only [go_sem, Nat.reduceAdd, Nat.reduceSub, reduceIte, Nat.reduceEqDiff, Int.reduceToNat, Int.reduceBEq, Int.reduceBNe, w1, w2, w3, w4, w5, w6]; (try (first | (refine And.intro (fun _ => ?_) (fun h => absurd h (by decide))) | (refine And.intro (fun h => absurd h (by decide)) (fun _ => ?_)))); (repeat (with_reducible refine And.intro acl ?_)); (first | (refine hK _ _ ?_) | (refine ⟨_, rfl, hK _ _ ?_⟩) | (refine Or.inl (hK _ _ ?_)) | (refine ⟨_, _, Or.inl (b1.go _ _ rfl), (by first | exact ⟨[], (List.append_nil _).symm⟩ | exact ⟨_, rfl⟩), hK _ _ ?_⟩) | (refine ⟨_, _, Or.inl (b1.go _ _ rfl), hK _ _ ?_⟩) | (refine ⟨_, _, Or.inl (b1.go _ _ rfl).weakQ, hK _ _ ?_⟩) | (refine ⟨_, _, Or.inl (t0.go _ _ rfl), (by first | exact ⟨[], (List.append_nil _).symm⟩ | exact ⟨_, rfl⟩), hK _ _ ?_⟩) | (refine ⟨_, _, Or.inl (t0.go _ _ rfl), hK _ _ ?_⟩) | (refine ⟨_, _, Or.inl (t0.go _ _ rfl).weakQ, hK _ _ ?_⟩) | (refine ⟨_, _, Or.inl (t1.go _ _ rfl), (by first | exact ⟨[], (List.append_nil _).symm⟩ | exact ⟨_, rfl⟩), hK _ _ ?_⟩) | (refine ⟨_, _, Or.inl (t1.go _ _ rfl), hK _ _ ?_⟩) | (refine ⟨_, _, Or.inl (t1.go _ _ rfl).weakQ, hK _ _ ?_⟩) | (refine ⟨_, _, Or.inl (t2.go _ _ rfl), (by first | exact ⟨[], (List.append_nil _).symm⟩ | exact ⟨_, rfl⟩), hK _ _ ?_⟩) | (refine ⟨_, _, Or.inl (t2.go _ _ rfl), hK _ _ ?_⟩) | (refine ⟨_, _, Or.inl (t2.go _ _ rfl).weakQ, hK _ _ ?_⟩) | (refine ⟨_, _, Or.inl (t3.go _ _ rfl), (by first | exact ⟨[], (List.append_nil _).symm⟩ | exact ⟨_, rfl⟩), hK _ _ ?_⟩) | (refine ⟨_, _, Or.inl (t3.go _ _ rfl), hK _ _ ?_⟩) | (refine ⟨_, _, Or.inl (t3.go _ _ rfl).weakQ, hK _ _ ?_⟩) | (refine ⟨_, _, Or.inl (t4.go _ _ rfl), (by first | exact ⟨[], (List.append_nil _).symm⟩ | exact ⟨_, rfl⟩), hK _ _ ?_⟩) | (refine ⟨_, _, Or.inl (t4.go _ _ rfl), hK _ _ ?_⟩) | (refine ⟨_, _, Or.inl (t4.go _ _ rfl).weakQ, hK _ _ ?_⟩) | (refine ⟨_, _, Or.inl (t5.go _ _ rfl), (by first | exact ⟨[], (List.append_nil _).symm⟩ | exact ⟨_, rfl⟩), hK _ _ ?_⟩) | (refine ⟨_, _, Or.inl (t5.go _ _ rfl), hK _ _ ?_⟩) | (refine ⟨_, _, Or.inl (t5.go _ _ rfl).weakQ, hK _ _ ?_⟩) | (refine ⟨_, _, Or.inl (np.go _), (by first | exact ⟨[], (List.append_nil _).symm⟩ | exact ⟨_, rfl⟩), hK _ _ ?_⟩) | (refine ⟨_, _, Or.inl (np.go _), hK _ _ ?_⟩) | (refine ⟨_, _, Or.inl (np.go _).weakQ, hK _ _ ?_⟩) | (refine ⟨_, _, Or.inl (gm.go _ _ rfl), (by first | exact ⟨[], (List.append_nil _).symm⟩ | exact ⟨_, rfl⟩), hK _ _ ?_⟩) | (refine ⟨_, _, Or.inl (gm.go _ _ rfl), hK _ _ ?_⟩) | (refine ⟨_, _, Or.inl (gm.go _ _ rfl).weakQ, hK _ _ ?_⟩)); clear hK K)
          | (with_reducible refine lops_nil ?_)
          | (with_reducible first | refine lavc_reg ?_ | refine lavc_seq ?_ | refine lavc_block ?_ | refine lavc_skip ?_ | refine lavc_exit ?_ | refine lavc_ret ?_ | refine lavcR_round ?_)
          | (refine lavc_cond rfl (fun _ => ?_) (fun hc => absurd hc (by decide)))
          | (refine lavc_cond rfl (fun hc => absurd hc (by decide)) (fun _ => ?_))
          | (simp only [↓reduceIte, Nat.reduceEqDiff, reduceCtorEq]))
        refine R1 tt ⟨?_⟩
        exact end1V (view4z _ _) (RB.nr _) rfl
      | cons a r =>
        have hf : f1 = 0 := Classical.byContradiction fun h => by
          have := o1 h
          cases this
        subst hf
        have q1 : decide (a :: r = (⟨#[]⟩ : ByteArray).toList) = false := by rw [eq_nil]; rfl
        have hW : (default, (([], 9) : St)) = W := by
          rw [← hW, if_pos (show 8 < d ∧ a :: r ≠ [] from ⟨h8, fun h => by cases h⟩)]
          rfl
        subst hW
        have t0 : MCall Tryz.prog glob 32 [.v (.string ⟨#[110, 117, 108, 108]⟩)] (RB ([], 9)) (.v (.bool false)) (RB ([], 9)) := tk nullB _ (by decide)
        have t1 : MCall Tryz.prog glob 32 [.v (.string ⟨#[102, 97, 108, 115, 101]⟩)] (RB ([], 9)) (.v (.bool false)) (RB ([], 9)) := tk falseB _ (by decide)
        have t2 : MCall Tryz.prog glob 32 [.v (.string ⟨#[116, 114, 117, 101]⟩)] (RB ([], 9)) (.v (.bool false)) (RB ([], 9)) := tk trueB _ (by decide)
        have t3 : MCall Tryz.prog glob 32 [.v (.string ⟨#[34]⟩)] (RB ([], 9)) (.v (.bool false)) (RB ([], 9)) := tk [34] _ (by decide)
        have t4 : MCall Tryz.prog glob 32 [.v (.string ⟨#[91]⟩)] (RB ([], 9)) (.v (.bool false)) (RB ([], 9)) := tk [91] _ (by decide)
        have t5 : MCall Tryz.prog glob 32 [.v (.string ⟨#[123]⟩)] (RB ([], 9)) (.v (.bool false)) (RB ([], 9)) := tk [123] _ (by decide)
        have g9 : MCall Tryz.prog glob 21 [ivC 9] (RB (a :: r, 0)) (.tup []) (RB ([], 9)) := give_m 9 (a :: r, 0)
        have gm : MCall Tryz.prog glob 21 [ivC 2] (RB ([], 9)) (.tup []) (RB ([], 9)) := give_m 2 ([], 9)
        repeat (first
          | (with_reducible refine lops_step fun K hK => ?_; simp (disch := first | exact dch | fail) only [go_sem, Nat.reduceAdd, Nat.reduceSub, reduceIte, Nat.reduceEqDiff, Int.reduceToNat, Int.reduceBEq, Int.reduceBNe, d8, q1]; (try (first | (refine And.intro (fun _ => ?_) (fun h => absurd h (by decide))) | (refine And.intro (fun h => absurd h (by decide)) (fun _ => ?_)))); (repeat (with_reducible refine And.intro acl ?_)); (first | (refine hK _ _ ?_) | (refine ⟨_, rfl, hK _ _ ?_⟩) | (refine Or.inl (hK _ _ ?_)) | (refine ⟨_, _, Or.inl (b1.go _ _ rfl), (by first | exact ⟨[], (List.append_nil _).symm⟩ | exact ⟨_, rfl⟩), hK _ _ ?_⟩) | (refine ⟨_, _, Or.inl (b1.go _ _ rfl), hK _ _ ?_⟩) | (refine ⟨_, _, Or.inl (b1.go _ _ rfl).weakQ, hK _ _ ?_⟩) | (refine ⟨_, _, Or.inl (t0.go _ _ rfl), (by first | exact ⟨[], (List.append_nil _).symm⟩ | exact ⟨_, rfl⟩), hK _ _ ?_⟩) | (refine ⟨_, _, Or.inl (t0.go _ _ rfl), hK _ _ ?_⟩) | (refine ⟨_, _, Or.inl (t0.go _ _ rfl).weakQ, hK _ _ ?_⟩) | (refine ⟨_, _, Or.inl (t1.go _ _ rfl), (by first | exact ⟨[], (List.append_nil _).symm⟩ | exact ⟨_, rfl⟩), hK _ _ ?_⟩) | (refine ⟨_, _, Or.inl (t1.go _ _ rfl), hK _ _ ?_⟩) | (refine ⟨_, _, Or.inl (t1.go _ _ rfl).weakQ, hK _ _ ?_⟩) | (refine ⟨_, _, Or.inl (t2.go _ _ rfl), (by first | exact ⟨[], (List.append_nil _).symm⟩ | exact ⟨_, rfl⟩), hK _ _ ?_⟩) | (refine ⟨_, _, Or.inl (t2.go _ _ rfl), hK _ _ ?_⟩) | (refine ⟨_, _, Or.inl (t2.go _ _ rfl).weakQ, hK _ _ ?_⟩) | (refine ⟨_, _, Or.inl (t3.go _ _ rfl), (by first | exact ⟨[], (List.append_nil _).symm⟩ | exact ⟨_, rfl⟩), hK _ _ ?_⟩) | (refine ⟨_, _, Or.inl (t3.go _ _ rfl), hK _ _ ?_⟩) | (refine ⟨_, _, Or.inl (t3.go _ _ rfl).weakQ, hK _ _ ?_⟩) | (refine ⟨_, _, Or.inl (t4.go _ _ rfl), (by first | exact ⟨[], (List.append_nil _).symm⟩ | exact ⟨_, rfl⟩), hK _ _ ?_⟩) | (refine ⟨_, _, Or.inl (t4.go _ _ rfl), hK _ _ ?_⟩) | (refine ⟨_, _, Or.inl (t4.go _ _ rfl).weakQ, hK _ _ ?_⟩) | (refine ⟨_, _, Or.inl (t5.go _ _ rfl), (by first | exact ⟨[], (List.append_nil _).symm⟩ | exact ⟨_, rfl⟩), hK _ _ ?_⟩) | (refine ⟨_, _, Or.inl (t5.go _ _ rfl), hK _ _ ?_⟩) | (refine ⟨_, _, Or.inl (t5.go _ _ rfl).weakQ, hK _ _ ?_⟩) | (refine ⟨_, _, Or.inl (np.go _), (by first | exact ⟨[], (List.append_nil _).symm⟩ | exact ⟨_, rfl⟩), hK _ _ ?_⟩) | (refine ⟨_, _, Or.inl (np.go _), hK _ _ ?_⟩) | (refine ⟨_, _, Or.inl (np.go _).weakQ, hK _ _ ?_⟩) | (refine ⟨_, _, Or.inl (gm.go _ _ rfl), (by first | exact ⟨[], (List.append_nil _).symm⟩ | exact ⟨_, rfl⟩), hK _ _ ?_⟩) | (refine ⟨_, _, Or.inl (gm.go _ _ rfl), hK _ _ ?_⟩) | (refine ⟨_, _, Or.inl (gm.go _ _ rfl).weakQ, hK _ _ ?_⟩) | (refine ⟨_, _, Or.inl (g9.go _ _ rfl), (by first | exact ⟨[], (List.append_nil _).symm⟩ | exact ⟨_, rfl⟩), hK _ _ ?_⟩) | (refine ⟨_, _, Or.inl (g9.go _ _ rfl), hK _ _ ?_⟩) | (refine ⟨_, _, Or.inl (g9.go _ _ rfl).weakQ, hK _ _ ?_⟩)); clear hK K)
          | (with_reducible refine lops_nil ?_)
          | (with_reducible first | refine lavc_reg ?_ | refine lavc_seq ?_ | refine lavc_block ?_ | refine lavc_skip ?_ | refine lavc_exit ?_ | refine lavc_ret ?_ | refine lavcR_round ?_)
          | (refine lavc_cond rfl (fun _ => ?_) (fun hc => absurd hc (by decide)))
          | (refine lavc_cond rfl (fun hc => absurd hc (by decide)) (fun _ => ?_))
          | (simp only [↓reduceIte, Nat.reduceEqDiff, reduceCtorEq]))
        refine lavc_rounds 4 ?_
        repeat (first
          | (with_reducible refine lops_step fun K hK => ?_; simp (disch := first | exact dch | fail) only [go_sem, Nat.reduceAdd, Nat.reduceSub, reduceIte, Nat.reduceEqDiff, Int.reduceToNat, Int.reduceBEq, Int.reduceBNe, w1, w2, w3, w4, w5, w6]; (try (first | (refine And.intro (fun _ => ?_) (fun h => absurd h (by decide))) | (refine And.intro (fun h => absurd h (by decide)) (fun _ => ?_)))); (repeat (with_reducible refine And.intro acl ?_)); (first | (refine hK _ _ ?_) | (refine ⟨_, rfl, hK _ _ ?_⟩) | (refine Or.inl (hK _ _ ?_)) | (refine ⟨_, _, Or.inl (b1.go _ _ rfl), (by first | exact ⟨[], (List.append_nil _).symm⟩ | exact ⟨_, rfl⟩), hK _ _ ?_⟩) | (refine ⟨_, _, Or.inl (b1.go _ _ rfl), hK _ _ ?_⟩) | (refine ⟨_, _, Or.inl (b1.go _ _ rfl).weakQ, hK _ _ ?_⟩) | (refine ⟨_, _, Or.inl (t0.go _ _ rfl), (by first | exact ⟨[], (List.append_nil _).symm⟩ | exact ⟨_, rfl⟩), hK _ _ ?_⟩) | (refine ⟨_, _, Or.inl (t0.go _ _ rfl), hK _ _ ?_⟩) | (refine ⟨_, _, Or.inl (t0.go _ _ rfl).weakQ, hK _ _ ?_⟩) | (refine ⟨_, _, Or.inl (t1.go _ _ rfl), (by first | exact ⟨[], (List.append_nil _).symm⟩ | exact ⟨_, rfl⟩), hK _ _ ?_⟩) | (refine ⟨_, _, Or.inl (t1.go _ _ rfl), hK _ _ ?_⟩) | (refine ⟨_, _, Or.inl (t1.go _ _ rfl).weakQ, hK _ _ ?_⟩) | (refine ⟨_, _, Or.inl (t2.go _ _ rfl), (by first | exact ⟨[], (List.append_nil _).symm⟩ | exact ⟨_, rfl⟩), hK _ _ ?_⟩) | (refine ⟨_, _, Or.inl (t2.go _ _ rfl), hK _ _ ?_⟩) | (refine ⟨_, _, Or.inl (t2.go _ _ rfl).weakQ, hK _ _ ?_⟩) | (refine ⟨_, _, Or.inl (t3.go _ _ rfl), (by first | exact ⟨[], (List.append_nil _).symm⟩ | exact ⟨_, rfl⟩), hK _ _ ?_⟩) | (refine ⟨_, _, Or.inl (t3.go _ _ rfl), hK _ _ ?_⟩) | (refine ⟨_, _, Or.inl (t3.go _ _ rfl).weakQ, hK _ _ ?_⟩) | (refine ⟨_, _, Or.inl (t4.go _ _ rfl), (by first | exact ⟨[], (List.append_nil _).symm⟩ | exact ⟨_, rfl⟩), hK _ _ ?_⟩) | (refine ⟨_, _, Or.inl (t4.go _ _ rfl), hK _ _ ?_⟩) | (refine ⟨_, _, Or.inl (t4.go _ _ rfl).weakQ, hK _ _ ?_⟩) | (refine ⟨_, _, Or.inl (t5.go _ _ rfl), (by first | exact ⟨[], (List.append_nil _).symm⟩ | exact ⟨_, rfl⟩), hK _ _ ?_⟩) | (refine ⟨_, _, Or.inl (t5.go _ _ rfl), hK _ _ ?_⟩) | (refine ⟨_, _, Or.inl (t5.go _ _ rfl).weakQ, hK _ _ ?_⟩) | (refine ⟨_, _, Or.inl (np.go _), (by first | exact ⟨[], (List.append_nil _).symm⟩ | exact ⟨_, rfl⟩), hK _ _ ?_⟩) | (refine ⟨_, _, Or.inl (np.go _), hK _ _ ?_⟩) | (refine ⟨_, _, Or.inl (np.go _).weakQ, hK _ _ ?_⟩) | (refine ⟨_, _, Or.inl (gm.go _ _ rfl), (by first | exact ⟨[], (List.append_nil _).symm⟩ | exact ⟨_, rfl⟩), hK _ _ ?_⟩) | (refine ⟨_, _, Or.inl (gm.go _ _ rfl), hK _ _ ?_⟩) | (refine ⟨_, _, Or.inl (gm.go _ _ rfl).weakQ, hK _ _ ?_⟩)); clear hK K)
          | (with_reducible refine lops_nil ?_)
          | (with_reducible first | refine lavc_reg ?_ | refine lavc_seq ?_ | refine lavc_block ?_ | refine lavc_skip ?_ | refine lavc_exit ?_ | refine lavc_ret ?_ | refine lavcR_round ?_)
          | (refine lavc_cond rfl (fun _ => ?_) (fun hc => absurd hc (by decide)))
          | (refine lavc_cond rfl (fun hc => absurd hc (by decide)) (fun _ => ?_))
          | (simp only [↓reduceIte, Nat.reduceEqDiff, reduceCtorEq]))
        refine R1 tt ⟨?_⟩
        exact end1V (view4z _ _) (RB.nr _) rfl
    have e2 : (if 8 < d ∧ l1 ≠ [] then giveP 9 (l1, f1) else (l1, f1)) = (l1, f1) := if_neg (fun h => h8 h.1)
    simp only [e2] at hW
    have d8 : decide (d > 8) = false := by rw [decide_eq_false_iff_not]; omega
    obtain ⟨p0, hp0⟩ : ∃ b, (nullB : List UInt8).isPrefixOf l1 = b := ⟨_, rfl⟩
    have t0 : MCall Tryz.prog glob 32 [.v (.string ⟨#[110, 117, 108, 108]⟩)] (RB (l1, f1)) (.v (.bool p0)) (RB (if p0 = true then takeP nullB (l1, f1) else (l1, f1))) := takeT nullB (l1, f1) p0 hp0
    obtain ⟨p1, hp1⟩ : ∃ b, (falseB : List UInt8).isPrefixOf l1 = b := ⟨_, rfl⟩
    have t1 : MCall Tryz.prog glob 32 [.v (.string ⟨#[102, 97, 108, 115, 101]⟩)] (RB (l1, f1)) (.v (.bool p1)) (RB (if p1 = true then takeP falseB (l1, f1) else (l1, f1))) := takeT falseB (l1, f1) p1 hp1
    obtain ⟨p2, hp2⟩ : ∃ b, (trueB : List UInt8).isPrefixOf l1 = b := ⟨_, rfl⟩
    have t2 : MCall Tryz.prog glob 32 [.v (.string ⟨#[116, 114, 117, 101]⟩)] (RB (l1, f1)) (.v (.bool p2)) (RB (if p2 = true then takeP trueB (l1, f1) else (l1, f1))) := takeT trueB (l1, f1) p2 hp2
    obtain ⟨p3, hp3⟩ : ∃ b, ([34] : List UInt8).isPrefixOf l1 = b := ⟨_, rfl⟩
    have t3 : MCall Tryz.prog glob 32 [.v (.string ⟨#[34]⟩)] (RB (l1, f1)) (.v (.bool p3)) (RB (if p3 = true then takeP [34] (l1, f1) else (l1, f1))) := takeT [34] (l1, f1) p3 hp3
    obtain ⟨p4, hp4⟩ : ∃ b, ([91] : List UInt8).isPrefixOf l1 = b := ⟨_, rfl⟩
    have t4 : MCall Tryz.prog glob 32 [.v (.string ⟨#[91]⟩)] (RB (l1, f1)) (.v (.bool p4)) (RB (if p4 = true then takeP [91] (l1, f1) else (l1, f1))) := takeT [91] (l1, f1) p4 hp4
    obtain ⟨p5, hp5⟩ : ∃ b, ([123] : List UInt8).isPrefixOf l1 = b := ⟨_, rfl⟩
    have t5 : MCall Tryz.prog glob 32 [.v (.string ⟨#[123]⟩)] (RB (l1, f1)) (.v (.bool p5)) (RB (if p5 = true then takeP [123] (l1, f1) else (l1, f1))) := takeT [123] (l1, f1) p5 hp5
    rw [hp0, hp1, hp2, hp3, hp4, hp5] at hW
    cases p0 with
    | true =>
      rw [if_pos rfl] at hW t0
      subst hW
      refine G1 F4 (an d8 tt) tt (an b1.go tt) tt ⟨?_⟩
      refine lavc_rounds 4 ?_
      refine G1 F4 (an w1 (an w2 (an w3 (an w4 (an w5 (an w6 tt)))))) tt (an t0.go tt) tt ⟨?_⟩
      refine R1 tt ⟨?_⟩
      exact end1V (view4z _ _) (RB.nr _) rfl
    | false =>
    rw [if_neg (by decide)] at hW t0
    cases p1 with
    | true =>
      rw [if_pos rfl] at hW t1
      subst hW
      refine G1 F4 (an d8 tt) tt (an b1.go tt) tt ⟨?_⟩
      refine lavc_rounds 4 ?_
      refine G1 F4 (an w1 (an w2 (an w3 (an w4 (an w5 (an w6 tt)))))) tt (an t0.go (an t1.go tt)) tt ⟨?_⟩
      refine R1 tt ⟨?_⟩
      exact end1V (view4z _ _) (RB.nr _) rfl
    | false =>
    rw [if_neg (by decide)] at hW t1
    cases p2 with
    | true =>
      rw [if_pos rfl] at hW t2
      subst hW
      refine G1 F4 (an d8 tt) tt (an b1.go tt) tt ⟨?_⟩
      refine lavc_rounds 4 ?_
      refine G1 F4 (an w1 (an w2 (an w3 (an w4 (an w5 (an w6 tt)))))) tt (an t0.go (an t1.go (an t2.go tt))) tt ⟨?_⟩
      refine R1 tt ⟨?_⟩
      exact end1V (view4z _ _) (RB.nr _) rfl
    | false =>
    rw [if_neg (by decide)] at hW t2
    cases p3 with
    | true =>
      rw [if_pos rfl] at hW t3
      have xm := text_m (takeP [34] (l1, f1)) (by have := take_len [34] (l1, f1); have : (takeP [34] (l1, f1)).1.length ≤ l1.length := this; omega)
      subst hW
      refine G1 F4 (an d8 tt) tt (an b1.go tt) tt ⟨?_⟩
      refine lavc_rounds 4 ?_
      repeat (first
        | (with_reducible refine lops_step fun K hK => ?_; simp (disch := first | exact dch | fail) only [go_sem, Nat.reduceAdd, Nat.reduceSub, reduceIte, Nat.reduceEqDiff, Int.reduceToNat, Int.reduceBEq, Int.reduceBNe, w1, w2, w3, w4, w5, w6]; (try (first | (refine And.intro (fun _ => ?_) (fun h => absurd h (by decide))) | (refine And.intro (fun h => absurd h (by decide)) (fun _ => ?_)))); (repeat (with_reducible refine And.intro acl ?_)); (first | (refine hK _ _ ?_) | (refine ⟨_, rfl, hK _ _ ?_⟩) | (refine Or.inl (hK _ _ ?_)) | (refine ⟨_, _, Or.inl (t0.go _ _ rfl), (by first | exact ⟨[], (List.append_nil _).symm⟩ | exact ⟨_, rfl⟩), hK _ _ ?_⟩) | (refine ⟨_, _, Or.inl (t0.go _ _ rfl), hK _ _ ?_⟩) | (refine ⟨_, _, Or.inl (t0.go _ _ rfl).weakQ, hK _ _ ?_⟩) | (refine ⟨_, _, Or.inl (t1.go _ _ rfl), (by first | exact ⟨[], (List.append_nil _).symm⟩ | exact ⟨_, rfl⟩), hK _ _ ?_⟩) | (refine ⟨_, _, Or.inl (t1.go _ _ rfl), hK _ _ ?_⟩) | (refine ⟨_, _, Or.inl (t1.go _ _ rfl).weakQ, hK _ _ ?_⟩) | (refine ⟨_, _, Or.inl (t2.go _ _ rfl), (by first | exact ⟨[], (List.append_nil _).symm⟩ | exact ⟨_, rfl⟩), hK _ _ ?_⟩) | (refine ⟨_, _, Or.inl (t2.go _ _ rfl), hK _ _ ?_⟩) | (refine ⟨_, _, Or.inl (t2.go _ _ rfl).weakQ, hK _ _ ?_⟩) | (refine ⟨_, _, Or.inl (t3.go _ _ rfl), (by first | exact ⟨[], (List.append_nil _).symm⟩ | exact ⟨_, rfl⟩), hK _ _ ?_⟩) | (refine ⟨_, _, Or.inl (t3.go _ _ rfl), hK _ _ ?_⟩) | (refine ⟨_, _, Or.inl (t3.go _ _ rfl).weakQ, hK _ _ ?_⟩) | (refine ⟨_, _, Or.inl (xm.go _ _ rfl), (by first | exact ⟨[], (List.append_nil _).symm⟩ | exact ⟨_, rfl⟩), hK _ _ ?_⟩) | (refine ⟨_, _, Or.inl (xm.go _ _ rfl), hK _ _ ?_⟩) | (refine ⟨_, _, Or.inl (xm.go _ _ rfl).weakQ, hK _ _ ?_⟩)); clear hK K)
        | (with_reducible refine lops_nil ?_)
        | (with_reducible first | refine lavc_reg ?_ | refine lavc_seq ?_ | refine lavc_block ?_ | refine lavc_skip ?_ | refine lavc_exit ?_ | refine lavc_ret ?_ | refine lavcR_round ?_)
        | (refine lavc_cond rfl (fun _ => ?_) (fun hc => absurd hc (by decide)))
        | (refine lavc_cond rfl (fun hc => absurd hc (by decide)) (fun _ => ?_))
        | (simp only [↓reduceIte, Nat.reduceEqDiff, reduceCtorEq]))
      refine R1 tt ⟨?_⟩
      exact end1V (view4z _ _) (RB.nr _) rfl
    | false =>
    rw [if_neg (by decide)] at hW t3
    have hvm := value_m n (d + 1) (by omega) (by omega) (by omega)
    have tl : ∀ p, (takeP p (l1, f1)).1.length ≤ 1000000 := fun p => by
      have := take_len p (l1, f1)
      have : (takeP p (l1, f1)).1.length ≤ l1.length := this
      omega
    cases p4 with
    | true =>
      rw [if_pos rfl] at hW t4
      have xm := list_m (valueP n (d + 1)) d (by omega) (value_len n (d + 1)) (value_fail n (d + 1)) hvm (takeP [91] (l1, f1)) (tl _)
      rw [hW] at xm
      obtain ⟨⟨kx, tx, nx, vx⟩, sx⟩ := W
      simp only at xm ⊢
      have nr := NR.vA (.mk kx tx nx vx)
      unfold vA at xm nr ⊢
      rw [Val.cells] at xm nr ⊢
      refine G1 F4 (an d8 tt) tt (an b1.go tt) tt ⟨?_⟩
      refine lavc_rounds 4 ?_
      repeat (first
        | (with_reducible refine lops_step fun K hK => ?_; simp (disch := first | exact dch | fail) only [go_sem, Nat.reduceAdd, Nat.reduceSub, reduceIte, Nat.reduceEqDiff, Int.reduceToNat, Int.reduceBEq, Int.reduceBNe, w1, w2, w3, w4, w5, w6]; (try (first | (refine And.intro (fun _ => ?_) (fun h => absurd h (by decide))) | (refine And.intro (fun h => absurd h (by decide)) (fun _ => ?_)))); (repeat (with_reducible refine And.intro acl ?_)); (first | (refine hK _ _ ?_) | (refine ⟨_, rfl, hK _ _ ?_⟩) | (refine Or.inl (hK _ _ ?_)) | (refine ⟨_, _, Or.inl (t0.go _ _ rfl), (by first | exact ⟨[], (List.append_nil _).symm⟩ | exact ⟨_, rfl⟩), hK _ _ ?_⟩) | (refine ⟨_, _, Or.inl (t0.go _ _ rfl), hK _ _ ?_⟩) | (refine ⟨_, _, Or.inl (t0.go _ _ rfl).weakQ, hK _ _ ?_⟩) | (refine ⟨_, _, Or.inl (t1.go _ _ rfl), (by first | exact ⟨[], (List.append_nil _).symm⟩ | exact ⟨_, rfl⟩), hK _ _ ?_⟩) | (refine ⟨_, _, Or.inl (t1.go _ _ rfl), hK _ _ ?_⟩) | (refine ⟨_, _, Or.inl (t1.go _ _ rfl).weakQ, hK _ _ ?_⟩) | (refine ⟨_, _, Or.inl (t2.go _ _ rfl), (by first | exact ⟨[], (List.append_nil _).symm⟩ | exact ⟨_, rfl⟩), hK _ _ ?_⟩) | (refine ⟨_, _, Or.inl (t2.go _ _ rfl), hK _ _ ?_⟩) | (refine ⟨_, _, Or.inl (t2.go _ _ rfl).weakQ, hK _ _ ?_⟩) | (refine ⟨_, _, Or.inl (t3.go _ _ rfl), (by first | exact ⟨[], (List.append_nil _).symm⟩ | exact ⟨_, rfl⟩), hK _ _ ?_⟩) | (refine ⟨_, _, Or.inl (t3.go _ _ rfl), hK _ _ ?_⟩) | (refine ⟨_, _, Or.inl (t3.go _ _ rfl).weakQ, hK _ _ ?_⟩) | (refine ⟨_, _, Or.inl (t4.go _ _ rfl), (by first | exact ⟨[], (List.append_nil _).symm⟩ | exact ⟨_, rfl⟩), hK _ _ ?_⟩) | (refine ⟨_, _, Or.inl (t4.go _ _ rfl), hK _ _ ?_⟩) | (refine ⟨_, _, Or.inl (t4.go _ _ rfl).weakQ, hK _ _ ?_⟩) | (refine ⟨_, _, Or.inl (xm.go _ _ rfl), (by first | exact ⟨[], (List.append_nil _).symm⟩ | exact ⟨_, rfl⟩), hK _ _ ?_⟩) | (refine ⟨_, _, Or.inl (xm.go _ _ rfl), hK _ _ ?_⟩) | (refine ⟨_, _, Or.inl (xm.go _ _ rfl).weakQ, hK _ _ ?_⟩)); clear hK K)
        | (with_reducible refine lops_nil ?_)
        | (with_reducible first | refine lavc_reg ?_ | refine lavc_seq ?_ | refine lavc_block ?_ | refine lavc_skip ?_ | refine lavc_exit ?_ | refine lavc_ret ?_ | refine lavcR_round ?_)
        | (refine lavc_cond rfl (fun _ => ?_) (fun hc => absurd hc (by decide)))
        | (refine lavc_cond rfl (fun hc => absurd hc (by decide)) (fun _ => ?_))
        | (simp only [↓reduceIte, Nat.reduceEqDiff, reduceCtorEq]))
      refine R1 tt ⟨?_⟩
      exact end1 nr rfl (RB.nr _) rfl
    | false =>
    rw [if_neg (by decide)] at hW t4
    cases p5 with
    | true =>
      rw [if_pos rfl] at hW t5
      have xm := page_m (valueP n (d + 1)) d (by omega) (value_len n (d + 1)) (value_fail n (d + 1)) hvm (takeP [123] (l1, f1)) (tl _)
      rw [hW] at xm
      obtain ⟨⟨kx, tx, nx, vx⟩, sx⟩ := W
      simp only at xm ⊢
      have nr := NR.vA (.mk kx tx nx vx)
      unfold vA at xm nr ⊢
      rw [Val.cells] at xm nr ⊢
      refine G1 F4 (an d8 tt) tt (an b1.go tt) tt ⟨?_⟩
      refine lavc_rounds 4 ?_
      repeat (first
        | (with_reducible refine lops_step fun K hK => ?_; simp (disch := first | exact dch | fail) only [go_sem, Nat.reduceAdd, Nat.reduceSub, reduceIte, Nat.reduceEqDiff, Int.reduceToNat, Int.reduceBEq, Int.reduceBNe, w1, w2, w3, w4, w5, w6]; (try (first | (refine And.intro (fun _ => ?_) (fun h => absurd h (by decide))) | (refine And.intro (fun h => absurd h (by decide)) (fun _ => ?_)))); (repeat (with_reducible refine And.intro acl ?_)); (first | (refine hK _ _ ?_) | (refine ⟨_, rfl, hK _ _ ?_⟩) | (refine Or.inl (hK _ _ ?_)) | (refine ⟨_, _, Or.inl (t0.go _ _ rfl), (by first | exact ⟨[], (List.append_nil _).symm⟩ | exact ⟨_, rfl⟩), hK _ _ ?_⟩) | (refine ⟨_, _, Or.inl (t0.go _ _ rfl), hK _ _ ?_⟩) | (refine ⟨_, _, Or.inl (t0.go _ _ rfl).weakQ, hK _ _ ?_⟩) | (refine ⟨_, _, Or.inl (t1.go _ _ rfl), (by first | exact ⟨[], (List.append_nil _).symm⟩ | exact ⟨_, rfl⟩), hK _ _ ?_⟩) | (refine ⟨_, _, Or.inl (t1.go _ _ rfl), hK _ _ ?_⟩) | (refine ⟨_, _, Or.inl (t1.go _ _ rfl).weakQ, hK _ _ ?_⟩) | (refine ⟨_, _, Or.inl (t2.go _ _ rfl), (by first | exact ⟨[], (List.append_nil _).symm⟩ | exact ⟨_, rfl⟩), hK _ _ ?_⟩) | (refine ⟨_, _, Or.inl (t2.go _ _ rfl), hK _ _ ?_⟩) | (refine ⟨_, _, Or.inl (t2.go _ _ rfl).weakQ, hK _ _ ?_⟩) | (refine ⟨_, _, Or.inl (t3.go _ _ rfl), (by first | exact ⟨[], (List.append_nil _).symm⟩ | exact ⟨_, rfl⟩), hK _ _ ?_⟩) | (refine ⟨_, _, Or.inl (t3.go _ _ rfl), hK _ _ ?_⟩) | (refine ⟨_, _, Or.inl (t3.go _ _ rfl).weakQ, hK _ _ ?_⟩) | (refine ⟨_, _, Or.inl (t4.go _ _ rfl), (by first | exact ⟨[], (List.append_nil _).symm⟩ | exact ⟨_, rfl⟩), hK _ _ ?_⟩) | (refine ⟨_, _, Or.inl (t4.go _ _ rfl), hK _ _ ?_⟩) | (refine ⟨_, _, Or.inl (t4.go _ _ rfl).weakQ, hK _ _ ?_⟩) | (refine ⟨_, _, Or.inl (t5.go _ _ rfl), (by first | exact ⟨[], (List.append_nil _).symm⟩ | exact ⟨_, rfl⟩), hK _ _ ?_⟩) | (refine ⟨_, _, Or.inl (t5.go _ _ rfl), hK _ _ ?_⟩) | (refine ⟨_, _, Or.inl (t5.go _ _ rfl).weakQ, hK _ _ ?_⟩) | (refine ⟨_, _, Or.inl (xm.go _ _ rfl), (by first | exact ⟨[], (List.append_nil _).symm⟩ | exact ⟨_, rfl⟩), hK _ _ ?_⟩) | (refine ⟨_, _, Or.inl (xm.go _ _ rfl), hK _ _ ?_⟩) | (refine ⟨_, _, Or.inl (xm.go _ _ rfl).weakQ, hK _ _ ?_⟩)); clear hK K)
        | (with_reducible refine lops_nil ?_)
        | (with_reducible first | refine lavc_reg ?_ | refine lavc_seq ?_ | refine lavc_block ?_ | refine lavc_skip ?_ | refine lavc_exit ?_ | refine lavc_ret ?_ | refine lavcR_round ?_)
        | (refine lavc_cond rfl (fun _ => ?_) (fun hc => absurd hc (by decide)))
        | (refine lavc_cond rfl (fun hc => absurd hc (by decide)) (fun _ => ?_))
        | (simp only [↓reduceIte, Nat.reduceEqDiff, reduceCtorEq]))
      refine R1 tt ⟨?_⟩
      exact end1 nr rfl (RB.nr _) rfl
    | false =>
    rw [if_neg (by decide)] at hW t5
    have np := pnum_p l1 (by omega)
    have gm := give_m 2 (l1, f1)
    have nl := nuL_le l1
    obtain ⟨w, hw⟩ : ∃ w, nuL l1 = w := ⟨_, rfl⟩
    rw [hw] at np nl hW
    by_cases hw0 : w = 0
    · rw [if_pos (.inl hw0)] at hW
      subst hw0 hW
      refine G1 F4 (an d8 tt) tt (an b1.go tt) tt ⟨?_⟩
      refine lavc_rounds 4 ?_
      repeat (first
        | (with_reducible refine lops_step fun K hK => ?_; simp (disch := first | exact dch | fail) only [go_sem, Nat.reduceAdd, Nat.reduceSub, reduceIte, Nat.reduceEqDiff, Int.reduceToNat, Int.reduceBEq, Int.reduceBNe, w1, w2, w3, w4, w5, w6]; (try (first | (refine And.intro (fun _ => ?_) (fun h => absurd h (by decide))) | (refine And.intro (fun h => absurd h (by decide)) (fun _ => ?_)))); (repeat (with_reducible refine And.intro acl ?_)); (first | (refine hK _ _ ?_) | (refine ⟨_, rfl, hK _ _ ?_⟩) | (refine Or.inl (hK _ _ ?_)) | (refine ⟨_, _, Or.inl (t0.go _ _ rfl), (by first | exact ⟨[], (List.append_nil _).symm⟩ | exact ⟨_, rfl⟩), hK _ _ ?_⟩) | (refine ⟨_, _, Or.inl (t0.go _ _ rfl), hK _ _ ?_⟩) | (refine ⟨_, _, Or.inl (t0.go _ _ rfl).weakQ, hK _ _ ?_⟩) | (refine ⟨_, _, Or.inl (t1.go _ _ rfl), (by first | exact ⟨[], (List.append_nil _).symm⟩ | exact ⟨_, rfl⟩), hK _ _ ?_⟩) | (refine ⟨_, _, Or.inl (t1.go _ _ rfl), hK _ _ ?_⟩) | (refine ⟨_, _, Or.inl (t1.go _ _ rfl).weakQ, hK _ _ ?_⟩) | (refine ⟨_, _, Or.inl (t2.go _ _ rfl), (by first | exact ⟨[], (List.append_nil _).symm⟩ | exact ⟨_, rfl⟩), hK _ _ ?_⟩) | (refine ⟨_, _, Or.inl (t2.go _ _ rfl), hK _ _ ?_⟩) | (refine ⟨_, _, Or.inl (t2.go _ _ rfl).weakQ, hK _ _ ?_⟩) | (refine ⟨_, _, Or.inl (t3.go _ _ rfl), (by first | exact ⟨[], (List.append_nil _).symm⟩ | exact ⟨_, rfl⟩), hK _ _ ?_⟩) | (refine ⟨_, _, Or.inl (t3.go _ _ rfl), hK _ _ ?_⟩) | (refine ⟨_, _, Or.inl (t3.go _ _ rfl).weakQ, hK _ _ ?_⟩) | (refine ⟨_, _, Or.inl (t4.go _ _ rfl), (by first | exact ⟨[], (List.append_nil _).symm⟩ | exact ⟨_, rfl⟩), hK _ _ ?_⟩) | (refine ⟨_, _, Or.inl (t4.go _ _ rfl), hK _ _ ?_⟩) | (refine ⟨_, _, Or.inl (t4.go _ _ rfl).weakQ, hK _ _ ?_⟩) | (refine ⟨_, _, Or.inl (t5.go _ _ rfl), (by first | exact ⟨[], (List.append_nil _).symm⟩ | exact ⟨_, rfl⟩), hK _ _ ?_⟩) | (refine ⟨_, _, Or.inl (t5.go _ _ rfl), hK _ _ ?_⟩) | (refine ⟨_, _, Or.inl (t5.go _ _ rfl).weakQ, hK _ _ ?_⟩) | (refine ⟨_, _, Or.inl (np.go _), (by first | exact ⟨[], (List.append_nil _).symm⟩ | exact ⟨_, rfl⟩), hK _ _ ?_⟩) | (refine ⟨_, _, Or.inl (np.go _), hK _ _ ?_⟩) | (refine ⟨_, _, Or.inl (np.go _).weakQ, hK _ _ ?_⟩) | (refine ⟨_, _, Or.inl (gm.go _ _ rfl), (by first | exact ⟨[], (List.append_nil _).symm⟩ | exact ⟨_, rfl⟩), hK _ _ ?_⟩) | (refine ⟨_, _, Or.inl (gm.go _ _ rfl), hK _ _ ?_⟩) | (refine ⟨_, _, Or.inl (gm.go _ _ rfl).weakQ, hK _ _ ?_⟩)); clear hK K)
        | (with_reducible refine lops_nil ?_)
        | (with_reducible first | refine lavc_reg ?_ | refine lavc_seq ?_ | refine lavc_block ?_ | refine lavc_skip ?_ | refine lavc_exit ?_ | refine lavc_ret ?_ | refine lavcR_round ?_)
        | (refine lavc_cond rfl (fun _ => ?_) (fun hc => absurd hc (by decide)))
        | (refine lavc_cond rfl (fun hc => absurd hc (by decide)) (fun _ => ?_))
        | (simp only [↓reduceIte, Nat.reduceEqDiff, reduceCtorEq]))
      refine R1 tt ⟨?_⟩
      exact end1V (view4z _ _) (RB.nr _) rfl
    have q0 : ((w : Int) == 0) = false := by rw [beq_eq_false_iff_ne, ne_eq]; omega
    by_cases hw4 : 40 < w
    · rw [if_pos (.inr hw4)] at hW
      subst hW
      have q4 : decide ((w : Int) > 40) = true := by rw [decide_eq_true_eq]; omega
      refine G1 F4 (an d8 tt) tt (an b1.go tt) tt ⟨?_⟩
      refine lavc_rounds 4 ?_
      repeat (first
        | (with_reducible refine lops_step fun K hK => ?_; simp (disch := first | exact dch | fail) only [go_sem, Nat.reduceAdd, Nat.reduceSub, reduceIte, Nat.reduceEqDiff, Int.reduceToNat, Int.reduceBEq, Int.reduceBNe, w1, w2, w3, w4, w5, w6, q0, q4]; (try (first | (refine And.intro (fun _ => ?_) (fun h => absurd h (by decide))) | (refine And.intro (fun h => absurd h (by decide)) (fun _ => ?_)))); (repeat (with_reducible refine And.intro acl ?_)); (first | (refine hK _ _ ?_) | (refine ⟨_, rfl, hK _ _ ?_⟩) | (refine Or.inl (hK _ _ ?_)) | (refine ⟨_, _, Or.inl (t0.go _ _ rfl), (by first | exact ⟨[], (List.append_nil _).symm⟩ | exact ⟨_, rfl⟩), hK _ _ ?_⟩) | (refine ⟨_, _, Or.inl (t0.go _ _ rfl), hK _ _ ?_⟩) | (refine ⟨_, _, Or.inl (t0.go _ _ rfl).weakQ, hK _ _ ?_⟩) | (refine ⟨_, _, Or.inl (t1.go _ _ rfl), (by first | exact ⟨[], (List.append_nil _).symm⟩ | exact ⟨_, rfl⟩), hK _ _ ?_⟩) | (refine ⟨_, _, Or.inl (t1.go _ _ rfl), hK _ _ ?_⟩) | (refine ⟨_, _, Or.inl (t1.go _ _ rfl).weakQ, hK _ _ ?_⟩) | (refine ⟨_, _, Or.inl (t2.go _ _ rfl), (by first | exact ⟨[], (List.append_nil _).symm⟩ | exact ⟨_, rfl⟩), hK _ _ ?_⟩) | (refine ⟨_, _, Or.inl (t2.go _ _ rfl), hK _ _ ?_⟩) | (refine ⟨_, _, Or.inl (t2.go _ _ rfl).weakQ, hK _ _ ?_⟩) | (refine ⟨_, _, Or.inl (t3.go _ _ rfl), (by first | exact ⟨[], (List.append_nil _).symm⟩ | exact ⟨_, rfl⟩), hK _ _ ?_⟩) | (refine ⟨_, _, Or.inl (t3.go _ _ rfl), hK _ _ ?_⟩) | (refine ⟨_, _, Or.inl (t3.go _ _ rfl).weakQ, hK _ _ ?_⟩) | (refine ⟨_, _, Or.inl (t4.go _ _ rfl), (by first | exact ⟨[], (List.append_nil _).symm⟩ | exact ⟨_, rfl⟩), hK _ _ ?_⟩) | (refine ⟨_, _, Or.inl (t4.go _ _ rfl), hK _ _ ?_⟩) | (refine ⟨_, _, Or.inl (t4.go _ _ rfl).weakQ, hK _ _ ?_⟩) | (refine ⟨_, _, Or.inl (t5.go _ _ rfl), (by first | exact ⟨[], (List.append_nil _).symm⟩ | exact ⟨_, rfl⟩), hK _ _ ?_⟩) | (refine ⟨_, _, Or.inl (t5.go _ _ rfl), hK _ _ ?_⟩) | (refine ⟨_, _, Or.inl (t5.go _ _ rfl).weakQ, hK _ _ ?_⟩) | (refine ⟨_, _, Or.inl (np.go _), (by first | exact ⟨[], (List.append_nil _).symm⟩ | exact ⟨_, rfl⟩), hK _ _ ?_⟩) | (refine ⟨_, _, Or.inl (np.go _), hK _ _ ?_⟩) | (refine ⟨_, _, Or.inl (np.go _).weakQ, hK _ _ ?_⟩) | (refine ⟨_, _, Or.inl (gm.go _ _ rfl), (by first | exact ⟨[], (List.append_nil _).symm⟩ | exact ⟨_, rfl⟩), hK _ _ ?_⟩) | (refine ⟨_, _, Or.inl (gm.go _ _ rfl), hK _ _ ?_⟩) | (refine ⟨_, _, Or.inl (gm.go _ _ rfl).weakQ, hK _ _ ?_⟩)); clear hK K)
        | (with_reducible refine lops_nil ?_)
        | (with_reducible first | refine lavc_reg ?_ | refine lavc_seq ?_ | refine lavc_block ?_ | refine lavc_skip ?_ | refine lavc_exit ?_ | refine lavc_ret ?_ | refine lavcR_round ?_)
        | (refine lavc_cond rfl (fun _ => ?_) (fun hc => absurd hc (by decide)))
        | (refine lavc_cond rfl (fun hc => absurd hc (by decide)) (fun _ => ?_))
        | (simp only [↓reduceIte, Nat.reduceEqDiff, reduceCtorEq]))
      refine R1 tt ⟨?_⟩
      exact end1V (view4z _ _) (RB.nr _) rfl
    · rw [if_neg (by omega)] at hW
      subst hW
      have q4 : decide ((w : Int) > 40) = false := by rw [decide_eq_false_iff_not]; omega
      refine G1 F4 (an d8 tt) tt (an b1.go tt) tt ⟨?_⟩
      refine lavc_rounds 4 ?_
      repeat (first
        | (with_reducible refine lops_step fun K hK => ?_; simp (disch := first | exact dch | fail) only [go_sem, Nat.reduceAdd, Nat.reduceSub, reduceIte, Nat.reduceEqDiff, Int.reduceToNat, Int.reduceBEq, Int.reduceBNe, w1, w2, w3, w4, w5, w6, q0, q4]; (try (first | (refine And.intro (fun _ => ?_) (fun h => absurd h (by decide))) | (refine And.intro (fun h => absurd h (by decide)) (fun _ => ?_)))); (repeat (with_reducible refine And.intro acl ?_)); (first | (refine hK _ _ ?_) | (refine ⟨_, rfl, hK _ _ ?_⟩) | (refine Or.inl (hK _ _ ?_)) | (refine ⟨_, _, Or.inl (t0.go _ _ rfl), (by first | exact ⟨[], (List.append_nil _).symm⟩ | exact ⟨_, rfl⟩), hK _ _ ?_⟩) | (refine ⟨_, _, Or.inl (t0.go _ _ rfl), hK _ _ ?_⟩) | (refine ⟨_, _, Or.inl (t0.go _ _ rfl).weakQ, hK _ _ ?_⟩) | (refine ⟨_, _, Or.inl (t1.go _ _ rfl), (by first | exact ⟨[], (List.append_nil _).symm⟩ | exact ⟨_, rfl⟩), hK _ _ ?_⟩) | (refine ⟨_, _, Or.inl (t1.go _ _ rfl), hK _ _ ?_⟩) | (refine ⟨_, _, Or.inl (t1.go _ _ rfl).weakQ, hK _ _ ?_⟩) | (refine ⟨_, _, Or.inl (t2.go _ _ rfl), (by first | exact ⟨[], (List.append_nil _).symm⟩ | exact ⟨_, rfl⟩), hK _ _ ?_⟩) | (refine ⟨_, _, Or.inl (t2.go _ _ rfl), hK _ _ ?_⟩) | (refine ⟨_, _, Or.inl (t2.go _ _ rfl).weakQ, hK _ _ ?_⟩) | (refine ⟨_, _, Or.inl (t3.go _ _ rfl), (by first | exact ⟨[], (List.append_nil _).symm⟩ | exact ⟨_, rfl⟩), hK _ _ ?_⟩) | (refine ⟨_, _, Or.inl (t3.go _ _ rfl), hK _ _ ?_⟩) | (refine ⟨_, _, Or.inl (t3.go _ _ rfl).weakQ, hK _ _ ?_⟩) | (refine ⟨_, _, Or.inl (t4.go _ _ rfl), (by first | exact ⟨[], (List.append_nil _).symm⟩ | exact ⟨_, rfl⟩), hK _ _ ?_⟩) | (refine ⟨_, _, Or.inl (t4.go _ _ rfl), hK _ _ ?_⟩) | (refine ⟨_, _, Or.inl (t4.go _ _ rfl).weakQ, hK _ _ ?_⟩) | (refine ⟨_, _, Or.inl (t5.go _ _ rfl), (by first | exact ⟨[], (List.append_nil _).symm⟩ | exact ⟨_, rfl⟩), hK _ _ ?_⟩) | (refine ⟨_, _, Or.inl (t5.go _ _ rfl), hK _ _ ?_⟩) | (refine ⟨_, _, Or.inl (t5.go _ _ rfl).weakQ, hK _ _ ?_⟩) | (refine ⟨_, _, Or.inl (np.go _), (by first | exact ⟨[], (List.append_nil _).symm⟩ | exact ⟨_, rfl⟩), hK _ _ ?_⟩) | (refine ⟨_, _, Or.inl (np.go _), hK _ _ ?_⟩) | (refine ⟨_, _, Or.inl (np.go _).weakQ, hK _ _ ?_⟩) | (refine ⟨_, _, Or.inl (gm.go _ _ rfl), (by first | exact ⟨[], (List.append_nil _).symm⟩ | exact ⟨_, rfl⟩), hK _ _ ?_⟩) | (refine ⟨_, _, Or.inl (gm.go _ _ rfl), hK _ _ ?_⟩) | (refine ⟨_, _, Or.inl (gm.go _ _ rfl).weakQ, hK _ _ ?_⟩)); clear hK K)
        | (with_reducible refine lops_nil ?_)
        | (with_reducible first | refine lavc_reg ?_ | refine lavc_seq ?_ | refine lavc_block ?_ | refine lavc_skip ?_ | refine lavc_exit ?_ | refine lavc_ret ?_ | refine lavcR_round ?_)
        | (refine lavc_cond rfl (fun _ => ?_) (fun hc => absurd hc (by decide)))
        | (refine lavc_cond rfl (fun hc => absurd hc (by decide)) (fun _ => ?_))
        | (simp only [↓reduceIte, Nat.reduceEqDiff, reduceCtorEq]))
      refine R1 tt ⟨?_⟩
      exact end1V (view4z _ _) (RB.nr _) rfl
end Go.Abs.S
namespace Go.Abs.S
attribute [local go_sem] lguard aopO aop aenv toAV tput aLoad aStore vcells aBin aNilI aUn aAlloc aBox aBuild aBSlice afill aConv isIntT aappZ aCap aArr aMM aMake aSlice bnd3 bnd aFldAddr aFld aIdxAddr aIdx aExt aLen aCopy aEq0 bAV aUb aapp aappQ agh acont List.getD_cons_zero List.getD_cons_succ List.set_cons_zero List.set_cons_succ List.getElem?_cons_zero List.getElem?_cons_succ List.length_cons List.length_nil List.map_cons List.map_nil ints_length if_true if_false Bool.false_eq_true true_and and_true eq_self ne_eq not_false_eq_true not_true_eq_false beq_self_eq_true Nat.zero_add Nat.add_zero Nat.mul_one Nat.zero_mul Int.toNat_natCast List.toList_toArray List.all_cons List.all_nil AV.one Value.oneCell' Bool.and_true Bool.true_and forall_const true_implies false_implies implies_true Option.map_some Option.map_none Option.isSome_some Option.isSome_none imp_self rdP_flat rdP_row splice_one ints_set ints_get List.append_nil List.cons_append List.nil_append List.getElem?_toArray List.drop_zero ints_drop ints_take List.take_of_length_le splice_all ints_one Option.some.injEq Option.getD_some List.length_replicate zArr List.map_replicate rep_ints splice_intsR List.length_set List.length_append List.flatten_replicate_singleton rep_slice rep_string rep_bool rep_iface List.replicate_zero if_pos if_neg List.mapM_cons List.mapM_nil Option.pure_def Option.bind_eq_bind Option.bind_some Bool.true_eq_false Bool.not_false Bool.not_true get_concat set_concat
open Go.Proofs
set_option linter.unusedVariables false
set_option linter.unusedSimpArgs false
set_option maxRecDepth 100000
set_option maxHeartbeats 8000000
theorem NR.pe (v : Val) (e : Int) : NR (.tup [Go.Abs.S.vA v, .v (.int .i64 e)]) := NR.tup (by intro c hc; simp at hc; rcases hc with rfl | rfl; exact NR.vA v; exact NR.v _)
theorem Parse_p (l : List UInt8) (hl : l.length ≤ 1000000) : PCall Tryz.prog glob 10 [.v (.string (bs l))] (.tup [vA (parseP l).1, ivC (parseP l).2]) := by
  refine PCall.of ctx.nr nrs (NR.pe _ _) ?_
  refine lcall10 (by simp) 0 (Nat.le_refl _) ?_
  unfold lc10
  refine I1 tt ⟨?_⟩
  obtain ⟨W, hW⟩ : ∃ W, parseP l = W := ⟨_, rfl⟩
  rw [hW]
  unfold parseP at hW
  simp only at hW
  have vm := value_m 10 1 (by decide) (by decide) (by decide) (l, 0) hl (fun h => absurd rfl h)
  obtain ⟨⟨⟨kx, tx, nx, vx⟩, s3⟩, hx⟩ : ∃ y, valueP 10 1 (l, 0) = y := ⟨_, rfl⟩
  rw [hx] at vm hW
  simp only at vm hW
  have hnr := NR.pe (.mk kx tx nx vx) 0
  have hvc : (Val.mk kx tx nx vx).cells = [ivC kx, stA tx, .vsl nx.length (strs nx) none, .vsl vx.length (cellsL vx) none] := by rw [Val.cells]
  unfold vA at vm hnr
  rw [hvc] at vm hnr
  have b3 := blanks_m s3
  obtain ⟨⟨l4, f4⟩, hs4⟩ : ∃ y, blanksP s3 = y := ⟨_, rfl⟩
  rw [hs4] at b3 hW
  simp only at hW
  have fin : ∀ (H : AHeap) (e : Int), View 0 H (.tup [.agg [ivC 0, stA ⟨#[]⟩, nlA, nlA], ivC e]) (.tup [vA default, ivC e]) := fun H e => view2 (view4z 0 ⟨#[]⟩) (.nr (NR.v _))
  by_cases h4 : l4 = []
  · subst h4
    have q1 : decide (([] : List UInt8) = (⟨#[]⟩ : ByteArray).toList) = true := by rw [eq_nil]; rfl
    have e1 : (if ([] : List UInt8) ≠ [] then giveP 2 ([], f4) else (([], f4) : St)) = ([], f4) := if_neg (fun h => h rfl)
    simp only [e1] at hW
    by_cases hf : f4 = 0
    · subst hf
      rw [if_neg (fun h => h rfl)] at hW
      subst hW
      refine G1 F4 (an q1 tt) tt (an vm.go (an b3.go tt)) tt ⟨?_⟩
      refine R1 tt ⟨?_⟩
      unfold vA
      rw [hvc]
      exact end0 hnr rfl
    · rw [if_pos hf] at hW
      subst hW
      have q2 : ((f4 : Int) != 0) = true := by rw [bne_iff_ne, ne_eq]; omega
      refine G1 F4 (an q1 (an q2 tt)) tt (an vm.go (an b3.go tt)) tt ⟨?_⟩
      refine lavc_lateq [.ptr 1 0 0, .ptr 1 0 0, .ptr 1 0 1, ivC f4] ?_ ?_ <;> simp only [lputs, o1_d, o2_d, o3_d, o4_d, tput, List.set_cons_succ, List.set_cons_zero]
      · (simp only [lfreesAt]; repeat (first | exact trivial | (refine And.intro (by unfold lfreeAt; unfold aopO; simp (disch := first | exact dch | fail) only [go_sem, Nat.reduceAdd, Nat.reduceSub, reduceIte, Nat.reduceEqDiff, Int.reduceToNat, Int.reduceBEq, Int.reduceBNe]; (repeat (with_reducible refine And.intro acl ?_)); first | exact ⟨rfl, fun d h => by cases h; rfl⟩ | exact fun d h => by cases h; rfl | exact Or.inr ⟨rfl, fun d h => by cases h; rfl⟩ | exact Or.inr (fun d h => by cases h; rfl) | exact Or.inl ⟨rfl, fun d h => by cases h; rfl⟩) ?_)))
      · refine G1 F3 tt tt tt tt ⟨?_⟩
        repeat (first
          | ((with_reducible refine lopsF_step ?_ fun K hK => ?_); (case _ => (simp only [lfreesAt]; repeat (first | exact trivial | (refine And.intro (by unfold lfreeAt; unfold aopO; simp (disch := first | exact dch | fail) only [go_sem, Nat.reduceAdd, Nat.reduceSub, reduceIte, Nat.reduceEqDiff, Int.reduceToNat, Int.reduceBEq, Int.reduceBNe]; (repeat (with_reducible refine And.intro acl ?_)); first | exact ⟨rfl, fun d h => by cases h; rfl⟩ | exact fun d h => by cases h; rfl | exact Or.inr ⟨rfl, fun d h => by cases h; rfl⟩ | exact Or.inr (fun d h => by cases h; rfl) | exact Or.inl ⟨rfl, fun d h => by cases h; rfl⟩) ?_)))); with_reducible skip; simp (disch := first | exact dch | fail) only [go_sem, Nat.reduceAdd, Nat.reduceSub, reduceIte, Nat.reduceEqDiff, Int.reduceToNat, Int.reduceBEq, Int.reduceBNe]; (repeat (with_reducible refine And.intro acl ?_)); (first | (refine hK _ _ ?_) | (refine ⟨_, rfl, hK _ _ ?_⟩) | (refine Or.inr (hK _ _ ?_)) | (refine Or.inr ⟨rfl, hK _ _ ?_⟩)); clear hK K)
          | ((with_reducible refine lopsF_nil ?_ ?_); (case _ => (simp only [lfreesAt]; repeat (first | exact trivial | (refine And.intro (by unfold lfreeAt; unfold aopO; simp (disch := first | exact dch | fail) only [go_sem, Nat.reduceAdd, Nat.reduceSub, reduceIte, Nat.reduceEqDiff, Int.reduceToNat, Int.reduceBEq, Int.reduceBNe]; (repeat (with_reducible refine And.intro acl ?_)); first | exact ⟨rfl, fun d h => by cases h; rfl⟩ | exact fun d h => by cases h; rfl | exact Or.inr ⟨rfl, fun d h => by cases h; rfl⟩ | exact Or.inr (fun d h => by cases h; rfl) | exact Or.inl ⟨rfl, fun d h => by cases h; rfl⟩) ?_)))))
          | (with_reducible first | refine lavc_reg ?_ | refine lavc_seq ?_ | refine lavc_block ?_ | refine lavc_skip ?_ | refine lavc_exit ?_ | refine lavc_ret ?_ | refine lavcR_round ?_)
          | (simp only [↓reduceIte, Nat.reduceEqDiff, reduceCtorEq]))
        refine G1 F4 tt tt tt tt ⟨?_⟩
        refine R1 tt ⟨?_⟩
        exact endV (fin _ _)
  · have q1 : decide (l4 = (⟨#[]⟩ : ByteArray).toList) = false := by rw [eq_nil]; exact decide_eq_false h4
    have gm := give_m 2 (l4, f4)
    rw [if_pos h4] at hW
    obtain ⟨⟨l5, f5⟩, hg⟩ : ∃ y, giveP 2 (l4, f4) = y := ⟨_, rfl⟩
    rw [hg] at gm hW
    simp only at hW
    have hf : f5 ≠ 0 := by
      unfold giveP at hg
      by_cases h : f4 = 0
      · rw [if_pos h] at hg
        cases hg
        decide
      · rw [if_neg h] at hg
        cases hg
        exact h
    rw [if_pos hf] at hW
    subst hW
    have q2 : ((f5 : Int) != 0) = true := by rw [bne_iff_ne, ne_eq]; omega
    refine G1 F4 (an q1 (an q2 tt)) tt (an vm.go (an b3.go (an gm.go tt))) tt ⟨?_⟩
    refine lavc_lateq [.ptr 1 0 0, .ptr 1 0 0, .ptr 1 0 1, ivC f5] ?_ ?_ <;> simp only [lputs, o1_d, o2_d, o3_d, o4_d, tput, List.set_cons_succ, List.set_cons_zero]
    · (simp only [lfreesAt]; repeat (first | exact trivial | (refine And.intro (by unfold lfreeAt; unfold aopO; simp (disch := first | exact dch | fail) only [go_sem, Nat.reduceAdd, Nat.reduceSub, reduceIte, Nat.reduceEqDiff, Int.reduceToNat, Int.reduceBEq, Int.reduceBNe]; (repeat (with_reducible refine And.intro acl ?_)); first | exact ⟨rfl, fun d h => by cases h; rfl⟩ | exact fun d h => by cases h; rfl | exact Or.inr ⟨rfl, fun d h => by cases h; rfl⟩ | exact Or.inr (fun d h => by cases h; rfl) | exact Or.inl ⟨rfl, fun d h => by cases h; rfl⟩) ?_)))
    · refine G1 F3 tt tt tt tt ⟨?_⟩
      repeat (first
        | ((with_reducible refine lopsF_step ?_ fun K hK => ?_); (case _ => (simp only [lfreesAt]; repeat (first | exact trivial | (refine And.intro (by unfold lfreeAt; unfold aopO; simp (disch := first | exact dch | fail) only [go_sem, Nat.reduceAdd, Nat.reduceSub, reduceIte, Nat.reduceEqDiff, Int.reduceToNat, Int.reduceBEq, Int.reduceBNe]; (repeat (with_reducible refine And.intro acl ?_)); first | exact ⟨rfl, fun d h => by cases h; rfl⟩ | exact fun d h => by cases h; rfl | exact Or.inr ⟨rfl, fun d h => by cases h; rfl⟩ | exact Or.inr (fun d h => by cases h; rfl) | exact Or.inl ⟨rfl, fun d h => by cases h; rfl⟩) ?_)))); with_reducible skip; simp (disch := first | exact dch | fail) only [go_sem, Nat.reduceAdd, Nat.reduceSub, reduceIte, Nat.reduceEqDiff, Int.reduceToNat, Int.reduceBEq, Int.reduceBNe]; (repeat (with_reducible refine And.intro acl ?_)); (first | (refine hK _ _ ?_) | (refine ⟨_, rfl, hK _ _ ?_⟩) | (refine Or.inr (hK _ _ ?_)) | (refine Or.inr ⟨rfl, hK _ _ ?_⟩)); clear hK K)
        | ((with_reducible refine lopsF_nil ?_ ?_); (case _ => (simp only [lfreesAt]; repeat (first | exact trivial | (refine And.intro (by unfold lfreeAt; unfold aopO; simp (disch := first | exact dch | fail) only [go_sem, Nat.reduceAdd, Nat.reduceSub, reduceIte, Nat.reduceEqDiff, Int.reduceToNat, Int.reduceBEq, Int.reduceBNe]; (repeat (with_reducible refine And.intro acl ?_)); first | exact ⟨rfl, fun d h => by cases h; rfl⟩ | exact fun d h => by cases h; rfl | exact Or.inr ⟨rfl, fun d h => by cases h; rfl⟩ | exact Or.inr (fun d h => by cases h; rfl) | exact Or.inl ⟨rfl, fun d h => by cases h; rfl⟩) ?_)))))
        | (with_reducible first | refine lavc_reg ?_ | refine lavc_seq ?_ | refine lavc_block ?_ | refine lavc_skip ?_ | refine lavc_exit ?_ | refine lavc_ret ?_ | refine lavcR_round ?_)
        | (simp only [↓reduceIte, Nat.reduceEqDiff, reduceCtorEq]))
      refine G1 F4 tt tt tt tt ⟨?_⟩
      refine R1 tt ⟨?_⟩
      exact endV (fin _ _)
end Go.Abs.S
namespace Go.Abs.S
/-- Texts that are read as times. -/
def textsV : Val → Prop
  | .mk _ _ _ vs => ∀ x ∈ vs, match x with
    | .mk _ t _ _ => t.size ≤ 1000000
end Go.Abs.S
namespace Go.Abs.S
open Go.Proofs
set_option linter.unusedVariables false
set_option linter.unusedSimpArgs false
set_option maxRecDepth 100000
set_option maxHeartbeats 4000000
/-- A value that was read. -/
def okV : Val → Prop
  | .mk k t ns vs => small (.mk k t ns vs) ∧ t.size ≤ 1000000 ∧ textsV (.mk k t ns vs)
def impCodW : FuncId → Bool := fun f => f == 17 || f == 18 || f == 19 || f == 20 || f == 21 || f == 29 || f == 31 || f == 32 || f == 33 || f == 34 || f == 40 || f == 46 || f == 47 || f == 68
/-- escutcheon/escutcheonlaw20.awake -/
def lc5 : LCode := .seq (.reg []
  [o1 0 (.assign (.const (.bool false)))]) (.seq (.reg []
  [o1 6 (.call ⟨.value (.func 10), #[.const (.string { data := #[123, 32, 34, 97, 34, 32, 58, 32, 91, 32, 49, 32, 44, 32, 34, 98, 34, 32, 93, 32, 125] })], #[9]⟩),
  o1 5 (.move (.tmp 6)),
  o1 7 (.extract (.tmp 5) 0),
  o1 8 (.extract (.tmp 5) 1),
  o1 1 (.alloc 26),
  o3 (.store 26 (.tmp 1) (.tmp 7)),
  o1 2 (.assign (.tmp 8))]) (.seq (.reg []
  [o1 10 (.load 26 (.tmp 1)),
  o1 11 (.call ⟨.value (.func 9), #[.tmp 10], #[26]⟩),
  o1 9 (.move (.tmp 11)),
  o1 12 (.extract (.tmp 9) 0),
  o1 13 (.extract (.tmp 9) 1),
  o1 3 (.assign (.tmp 12)),
  o1 4 (.assign (.tmp 13))]) (.seq (.reg []
  [o1 14 (.move (.tmp 2)),
  o1 15 (.binOp .eql 34 (.tmp 14) (.const (.int .i64 0)) 34),
  o1 16 (.move (.tmp 15)),
  o2 17 (.move (.tmp 4)) 16 true,
  o2 18 (.binOp .eql 34 (.tmp 17) (.const (.int .i64 0)) 34) 16 true,
  o1 19 (.pick (.tmp 16) (.tmp 18) (.const (.bool false))),
  o1 20 (.move (.tmp 19)),
  o2 21 (.move (.tmp 3)) 20 true,
  o2 22 (.binOp .eql 9 (.tmp 21) (.const (.string { data := #[123, 34, 97, 34, 58, 91, 49, 44, 34, 98, 34, 93, 125] })) 9) 20 true,
  o1 23 (.pick (.tmp 20) (.tmp 22) (.const (.bool false))),
  o1 0 (.assign (.tmp 23))]) (.ret))))
theorem ls5 : Tryz.f5.body.map (strip Tryz.prog impCodW) = some lc5 := by kernel_rfl
theorem lcall5 : LC 5 24 lc5 [.tmp 0] := LC.of Tryz.func5 (by kernel_rfl) ls5 (by kernel_rfl) (by kernel_rfl)
/-- escutcheon/escutcheonlaw20.few -/
def lc6 : LCode := .seq (.reg []
  [o1 2 (.box 26 (.tmp 0)),
  o1 4 (.assign (.const (.bool false)))]) (.seq (.seq (.reg []
  [o1 9 (.move (.tmp 1)),
  o1 10 (.binOp .eql 3 (.tmp 9) (.const (.int .i64 0)) 3),
  o1 11 (.move (.tmp 10)),
  o2 12 (.fieldAddr 26 (.tmp 2) 1) 11 false,
  o2 13 (.load 9 (.tmp 12)) 11 false,
  o2 14 (.call ⟨.builtin .len, #[.tmp 13], #[9]⟩) 11 false,
  o2 15 (.binOp .gtr 3 (.tmp 14) (.const (.int .i64 100)) 3) 11 false,
  o1 16 (.pick (.tmp 11) (.const (.bool true)) (.tmp 15)),
  o1 17 (.move (.tmp 16)),
  o2 18 (.fieldAddr 26 (.tmp 2) 2) 17 false,
  o2 19 (.load 23 (.tmp 18)) 17 false,
  o2 20 (.call ⟨.builtin .len, #[.tmp 19], #[23]⟩) 17 false,
  o2 21 (.binOp .gtr 3 (.tmp 20) (.const (.int .i64 80)) 3) 17 false,
  o1 22 (.pick (.tmp 17) (.const (.bool true)) (.tmp 21)),
  o1 23 (.move (.tmp 22)),
  o2 24 (.fieldAddr 26 (.tmp 2) 3) 23 false,
  o2 25 (.load 24 (.tmp 24)) 23 false,
  o2 26 (.call ⟨.builtin .len, #[.tmp 25], #[24]⟩) 23 false,
  o2 27 (.binOp .gtr 3 (.tmp 26) (.const (.int .i64 80)) 3) 23 false,
  o1 28 (.pick (.tmp 23) (.const (.bool true)) (.tmp 27))]) (.cond (.tmp 28) (.seq (.reg []
  [o1 4 (.assign (.const (.bool false)))]) (.ret)) (.skip))) (.seq (.seq (.reg []
  [o1 29 (.fieldAddr 26 (.tmp 2) 2),
  o1 30 (.load 23 (.tmp 29)),
  o1 31 (.call ⟨.builtin .len, #[.tmp 30], #[23]⟩),
  o1 32 (.move (.const (.int .i64 0)))]) (.block 0 (.loop (.seq (.reg []
  [o1 33 (.binOp .lss 3 (.tmp 32) (.tmp 31) 3)]) (.seq (.cond (.tmp 33) (.skip) (.exit 0)) (.seq (.block 1 (.seq (.reg []
  [o1 34 (.indexAddr 23 (.tmp 30) (.tmp 32)),
  o1 35 (.load 9 (.tmp 34)),
  o1 6 (.assign (.tmp 35))]) (.seq (.reg []
  [o1 36 (.move (.tmp 6)),
  o1 37 (.call ⟨.builtin .len, #[.tmp 36], #[9]⟩),
  o1 38 (.binOp .gtr 3 (.tmp 37) (.const (.int .i64 60)) 3)]) (.cond (.tmp 38) (.seq (.reg []
  [o1 4 (.assign (.const (.bool false)))]) (.ret)) (.skip))))) (.reg []
  [o1 39 (.binOp .add 3 (.tmp 32) (.const (.int .i64 1)) 3),
  o1 32 (.move (.tmp 39))]))))))) (.seq (.seq (.reg []
  [o1 40 (.fieldAddr 26 (.tmp 2) 3),
  o1 41 (.load 24 (.tmp 40)),
  o1 42 (.call ⟨.builtin .len, #[.tmp 41], #[24]⟩),
  o1 43 (.move (.const (.int .i64 0)))]) (.block 2 (.loop (.seq (.reg []
  [o1 44 (.binOp .lss 3 (.tmp 43) (.tmp 42) 3)]) (.seq (.cond (.tmp 44) (.skip) (.exit 2)) (.seq (.block 3 (.seq (.reg []
  [o1 45 (.indexAddr 24 (.tmp 41) (.tmp 43)),
  o1 46 (.load 26 (.tmp 45)),
  o1 8 (.alloc 26),
  o3 (.store 26 (.tmp 8) (.tmp 46))]) (.seq (.reg []
  [o1 47 (.load 26 (.tmp 8)),
  o1 48 (.move (.tmp 1)),
  o1 49 (.binOp .sub 3 (.tmp 48) (.const (.int .i64 1)) 3),
  o1 50 (.call ⟨.value (.func 6), #[.tmp 47, .tmp 49], #[26, 3]⟩),
  o1 51 (.unOp .not 4 (.tmp 50))]) (.cond (.tmp 51) (.seq (.reg []
  [o1 4 (.assign (.const (.bool false)))]) (.ret)) (.skip))))) (.reg []
  [o1 52 (.binOp .add 3 (.tmp 43) (.const (.int .i64 1)) 3),
  o1 43 (.move (.tmp 52))]))))))) (.seq (.reg []
  [o1 4 (.assign (.const (.bool true)))]) (.ret)))))
def ms6_0 : List Nat := [0, 3, 4, 5, 6, 7, 9, 10, 11, 12, 13, 14, 15, 16, 17, 18, 19, 20, 21, 22, 23, 24, 25, 26, 27, 28, 29, 32, 33, 34, 35, 36, 37, 38, 39]
def ms6_1 : List Nat := [0, 2, 3, 4, 5, 6, 7, 8, 9, 10, 11, 12, 13, 14, 15, 16, 17, 18, 19, 20, 21, 22, 23, 24, 25, 26, 27, 28, 29, 30, 31, 32, 33, 34, 35, 36, 37, 38, 39, 40, 43, 44, 45, 46, 47, 48, 49, 50, 51, 52]
theorem ls6 : Tryz.f6.body.map (strip Tryz.prog impCodW) = some lc6 := by kernel_rfl
theorem lcall6 : LC 6 53 lc6 [.tmp 4] := LC.of Tryz.func6 (by kernel_rfl) ls6 (by kernel_rfl) (by kernel_rfl)
end Go.Abs.S
namespace Go.Abs.S
attribute [local go_sem] lguard aopO aop aenv toAV tput aLoad aStore vcells aBin aNilI aUn aAlloc aBox aBuild aBSlice afill aConv isIntT aappZ aCap aArr aMM aMake aSlice bnd3 bnd aFldAddr aFld aIdxAddr aIdx aExt aLen aCopy aEq0 bAV aUb aapp aappQ agh acont List.getD_cons_zero List.getD_cons_succ List.set_cons_zero List.set_cons_succ List.getElem?_cons_zero List.getElem?_cons_succ List.length_cons List.length_nil List.map_cons List.map_nil ints_length if_true if_false Bool.false_eq_true true_and and_true eq_self ne_eq not_false_eq_true not_true_eq_false beq_self_eq_true Nat.zero_add Nat.add_zero Nat.mul_one Nat.zero_mul Int.toNat_natCast List.toList_toArray List.all_cons List.all_nil AV.one Value.oneCell' Bool.and_true Bool.true_and forall_const true_implies false_implies implies_true Option.map_some Option.map_none Option.isSome_some Option.isSome_none imp_self rdP_flat rdP_row splice_one ints_set ints_get List.append_nil List.cons_append List.nil_append List.getElem?_toArray List.drop_zero ints_drop ints_take List.take_of_length_le splice_all ints_one Option.some.injEq Option.getD_some List.length_replicate zArr List.map_replicate rep_ints splice_intsR List.length_set List.length_append List.flatten_replicate_singleton rep_slice rep_string rep_bool rep_iface List.replicate_zero if_pos if_neg List.mapM_cons List.mapM_nil Option.pure_def Option.bind_eq_bind Option.bind_some Bool.true_eq_false Bool.not_false Bool.not_true get_concat set_concat
open Go.Proofs
set_option linter.unusedVariables false
set_option linter.unusedSimpArgs false
set_option maxRecDepth 100000
set_option maxHeartbeats 8000000
theorem NR.st (s : ByteArray) (e : Int) : NR (.tup [.v (.string s), .v (.int .i64 e)]) := NR.tup (by intro c hc; simp at hc; rcases hc with rfl | rfl <;> exact NR.v _)
theorem Print_bad (v : Val) (h : small v) (g : Int) (hg : goodV v 1 = g) (h0 : g ≠ 0) : PCall Tryz.prog glob 9 [vA v] (.tup [stA ⟨#[]⟩, ivC g]) := by
  refine PCall.of ctx.nr (List.forall_mem_cons.2 ⟨NR.vA v, fun _ h => absurd h List.not_mem_nil⟩) (NR.st _ _) ?_
  refine lcall9 (by simp) 0 (Nat.le_refl _) ?_
  have gp := Good_v v h
  rw [hg] at gp
  obtain ⟨k, t, ns, vs⟩ := v
  unfold vA at gp ⊢
  rw [Val.cells] at gp ⊢
  unfold lc9
  refine I1 tt ⟨?_⟩
  have q : ((g : Int) != 0) = true := by rw [bne_iff_ne, ne_eq]; omega
  refine G1 F4 (an q tt) (an gp.go tt) tt tt ⟨?_⟩
  refine R1 tt ⟨?_⟩
  exact end0 (NR.st _ _) rfl
theorem nr_three (B X Y : Blk) (h : ∀ c ∈ B.cells, NR c) : NRH [B, X, Y] 1 2 := fun i k hi h1 h2 => by
  match i, hi with
  | 0, hi =>
    cases hi
    exact h
  | 1, _ => exact absurd rfl h1
  | 2, _ => exact absurd rfl h2
  | i + 3, hi => simp at hi
theorem Print_good (v : Val) (h : small v) (hg : goodV v 1 = 0) (hl : (prV v).length ≤ 1000000000) : PCall Tryz.prog glob 9 [vA v] (.tup [stA (bs (prV v)), ivC 0]) := by
  refine PCall.of ctx.nr (List.forall_mem_cons.2 ⟨NR.vA v, fun _ h => absurd h List.not_mem_nil⟩) (NR.st _ _) ?_
  refine lcall9 (by simp) 0 (Nat.le_refl _) ?_
  have gp := Good_v v h
  rw [hg] at gp
  have nv := v.nr
  have pa := fun (B X Y : Blk) (hB : ∀ c ∈ B.cells, NR c) => print_a v (good_well v 1 hg) h [B, X, Y] 1 2 0 0 [] ⟨by simp, by simp, by decide⟩ (nr_three B X Y hB) (by simpa using hl)
  have sV := strOf_bs (prV v)
  have bl := bz_len (prV v)
  obtain ⟨k, t, ns, vs⟩ := v
  obtain ⟨p, hp⟩ : ∃ p, prV (.mk k t ns vs) = p := ⟨_, rfl⟩
  obtain ⟨c, hc⟩ : ∃ p, cntV (.mk k t ns vs) = p := ⟨_, rfl⟩
  rw [hp] at pa sV bl hl ⊢
  rw [hc] at pa
  unfold vA at gp pa ⊢
  rw [Val.cells] at gp pa nv ⊢
  have pb : ACall Tryz.prog glob false 17 [.agg [ivC k, stA t, .vsl ns.length (strs ns) none, .vsl vs.length (cellsL vs) none], .ptr 1 0 0]
      [Blk.mk [ivC k, stA t, .vsl ns.length (strs ns) none, .vsl vs.length (cellsL vs) none] 0 true 26, ⟨[.bad 1 0, .bsl 2 0 0], 0, true, 51⟩, ⟨ints .u8 [], 0, true, 5⟩] (.tup [])
      [Blk.mk [ivC k, stA t, .vsl ns.length (strs ns) none, .vsl vs.length (cellsL vs) none] 0 true 26, ⟨[.bad 1 0, .bsl 2 (0 + c) (bytesOf (bs p)).length], 0, true, 51⟩, ⟨ints .u8 (bytesOf (bs p)), 0 + c, true, 5⟩] := pa (Blk.mk [ivC k, stA t, .vsl ns.length (strs ns) none, .vsl vs.length (cellsL vs) none] 0 true 26) ⟨[.bad 1 0, .bsl 2 0 0], 0, true, 51⟩ ⟨ints .u8 [], 0, true, 5⟩ nv
  unfold lc9
  refine I1 tt ⟨?_⟩
  refine G1 F1 tt (an gp.go tt) tt tt ⟨?_⟩
  refine lavc_cond rfl (fun hc => absurd hc (by decide)) (fun _ => lavc_skip ?_)
  refine lavc_seq (lavc_reg ?_)
  refine G1 F6 tt tt tt tt ⟨?_⟩
  refine lavc_bld 1 5 rfl rfl ?_
  repeat (first
    | (with_reducible refine lops_step fun K hK => ?_; simp (disch := first | exact dch | fail) only [go_sem, Nat.reduceAdd, Nat.reduceSub, reduceIte, Nat.reduceEqDiff, Int.reduceToNat, Int.reduceBEq, Int.reduceBNe, sV]; (try (first | (refine And.intro (fun _ => ?_) (fun h => absurd h (by decide))) | (refine And.intro (fun h => absurd h (by decide)) (fun _ => ?_)))); (repeat (with_reducible refine And.intro acl ?_)); (first | (refine hK _ _ ?_) | (refine ⟨_, rfl, hK _ _ ?_⟩) | (refine Or.inl (hK _ _ ?_)) | (refine ⟨_, _, Or.inl ((pb)), (by first | exact ⟨[], (List.append_nil _).symm⟩ | exact ⟨_, rfl⟩), hK _ _ ?_⟩) | (refine ⟨_, _, Or.inl ((pb)), hK _ _ ?_⟩) | (refine ⟨_, _, Or.inl ((pb)).weakQ, hK _ _ ?_⟩) | (refine ⟨_, _, Or.inl ((String_a (b := 1) (b1 := 2) (acc := bytesOf (bs p)) rfl rfl rfl (by omega) (bytes_u8 _))), (by first | exact ⟨[], (List.append_nil _).symm⟩ | exact ⟨_, rfl⟩), hK _ _ ?_⟩) | (refine ⟨_, _, Or.inl ((String_a (b := 1) (b1 := 2) (acc := bytesOf (bs p)) rfl rfl rfl (by omega) (bytes_u8 _))), hK _ _ ?_⟩) | (refine ⟨_, _, Or.inl ((String_a (b := 1) (b1 := 2) (acc := bytesOf (bs p)) rfl rfl rfl (by omega) (bytes_u8 _))).weakQ, hK _ _ ?_⟩)); clear hK K)
    | (with_reducible refine lops_nil ?_)
    | (with_reducible first | refine lavc_reg ?_ | refine lavc_seq ?_ | refine lavc_block ?_ | refine lavc_skip ?_ | refine lavc_exit ?_ | refine lavc_ret ?_ | refine lavcR_round ?_)
    | (refine lavc_cond rfl (fun _ => ?_) (fun hc => absurd hc (by decide)))
    | (refine lavc_cond rfl (fun hc => absurd hc (by decide)) (fun _ => ?_))
    | (simp only [↓reduceIte, Nat.reduceEqDiff, reduceCtorEq]))
  refine R1 tt ⟨?_⟩
  exact end0 (NR.st _ _) rfl
/-- The document's example. -/
def exL : List UInt8 := [123, 32, 34, 97, 34, 32, 58, 32, 91, 32, 49, 32, 44, 32, 34, 98, 34, 32, 93, 32, 125]
def exV : Val := .mk 6 (bs []) [bs [97]] [.mk 5 (bs []) [] [.mk 3 (bs [49]) [] [], .mk 4 (bs [98]) [] []]]
theorem ex_parse : parseP exL = (exV, 0) := by kernel_rfl
theorem ex_good : goodV exV 1 = 0 := by kernel_rfl
theorem ex_print : prV exV = [123, 34, 97, 34, 58, 91, 49, 44, 34, 98, 34, 93, 125] := by kernel_rfl
theorem ex_small : small exV := by
  unfold exV
  simp only [small, smallL, small1]
  refine ⟨⟨by decide, by decide, fun s hs => ?_, by decide⟩, ⟨⟨by decide, by decide, fun s hs => absurd hs List.not_mem_nil, by decide⟩, ⟨⟨by decide, by decide, fun s hs => absurd hs List.not_mem_nil, by decide⟩, trivial⟩, ⟨⟨by decide, by decide, fun s hs => absurd hs List.not_mem_nil, by decide⟩, trivial⟩, trivial⟩, trivial⟩
  rw [List.mem_singleton.1 hs]
  decide
theorem awake_p : PCall Tryz.prog glob 5 [] (.v (.bool true)) := by
  refine PCall.of ctx.nr nrs (NR.v _) ?_
  refine lcall5 (by simp) 0 (Nat.le_refl _) ?_
  have pp : PCall Tryz.prog glob 10 [.v (.string ⟨#[123, 32, 34, 97, 34, 32, 58, 32, 91, 32, 49, 32, 44, 32, 34, 98, 34, 32, 93, 32, 125]⟩)] (.tup [vA exV, ivC 0]) := by
    have h := Parse_p exL (by decide)
    rw [ex_parse] at h
    exact h
  have pr : PCall Tryz.prog glob 9 [vA exV] (.tup [.v (.string ⟨#[123, 34, 97, 34, 58, 91, 49, 44, 34, 98, 34, 93, 125]⟩), ivC 0]) := by
    have h := Print_good exV ex_small ex_good (by rw [ex_print]; decide)
    rw [ex_print] at h
    exact h
  obtain ⟨X, hX⟩ : ∃ X, exV = X := ⟨_, rfl⟩
  rw [hX] at pp pr
  obtain ⟨k, t, ns, vs⟩ := X
  unfold vA at pp pr
  rw [Val.cells] at pp pr
  unfold lc5
  refine I1 tt ⟨?_⟩
  refine G1 F4 tt (an pp.go (an pr.go tt)) tt tt ⟨?_⟩
  refine R1 tt ⟨?_⟩
  exact end0 (NR.v _) (by simp)
end Go.Abs.S
namespace Go.Proofs.YtdbpaahdonplbaaGreatDoor.LaidCells
variable {H : Type}
/-- The cells of plain data (numbers, bools, texts, structs and arrays of these), by type. -/
def expFields (P : Program) (go : TypeId → DataW H → Option (List Value)) : List Field → List (DataW H) → Nat → Option (List Value)
  | [], [], _ => some []
  | f :: fs, d :: ds, off => if f.offset = off then (go f.type d).bind fun l => if l.length = P.cellsOf f.type then (expFields P go fs ds (off + l.length)).map (l ++ ·) else none else none
  | _, _, _ => none
def expElems (go : DataW H → Option (List Value)) (size : Nat) : List (DataW H) → Option (List Value)
  | [] => some []
  | d :: ds => (go d).bind fun l => if l.length = size then (expElems go size ds).map (l ++ ·) else none
def exp (P : Program) : Nat → TypeId → DataW H → Option (List Value)
  | 0, _, _ => none
  | n + 1, t, d =>
    match P.underlying t, d with
    | some (.int k), .lit (.int k' i) => if k' = k then some [.int k i] else none
    | some .bool, .lit (.bool b) => some [.bool b]
    | some .string, .lit (.string s) => some [.string ⟨s.toArray⟩]
    | some (.struct fs), .agg ds => (expFields P (exp P n) fs.toList ds 0).bind fun l => if l.length = P.cellsOf t then some l else none
    | some (.array m e), .agg ds => if ds.length = m then (expElems (exp P n e) (P.cellsOf e) ds).bind fun l => if l.length = P.cellsOf t then some l else none else none
    | _, _ => none

section
variable {enc : TypeId × Value → H} {P : Program} {w : World} {base : Nat} {spare : Nat → Bool} {held : Bool}
theorem trod_struct {fuel : Nat} {t : TypeId} {fs : Array Field} {cs : List Value} {x : DataW H × List MemPlace} (ht : P.underlying t = some (.struct fs)) (h : DataW.trod enc P w base spare held fuel t cs = some x) :
    ∃ (xs : List (DataW H × List MemPlace)) (m : Nat), x.1 = .agg (xs.map (·.1)) ∧ cs.length = P.cellsOf t ∧ fs.toList.mapM (fun f => DataW.trod enc P w base spare held m f.type ((cs.drop f.offset).take (P.cellsOf f.type))) = some xs := by
  cases fuel with
  | zero => simp [DataW.trod] at h
  | succ m =>
    unfold DataW.trod at h
    rw [ht] at h
    split at h <;> simp_all
    obtain ⟨h1, xs, h2, rfl⟩ := h
    exact ⟨xs, rfl, m, h2⟩
theorem fields_eq (go : TypeId → DataW H → Option (List Value)) (rd : TypeId → List Value → Option (DataW H × List MemPlace))
    (hgo : ∀ t cs x l, rd t cs = some x → go t x.1 = some l → cs = l) (cs : List Value) :
    ∀ (fs : List Field) (xs : List (DataW H × List MemPlace)) (off : Nat) (l : List Value), fs.mapM (fun f => rd f.type ((cs.drop f.offset).take (P.cellsOf f.type))) = some xs →
      expFields P go fs (xs.map (·.1)) off = some l → (cs.drop off).take l.length = l
  | [], xs, off, l, h, he => by
    simp at h
    subst h
    simp [expFields] at he
    subst he
    rfl
  | f :: fs, xs, off, l, h, he => by
    rw [List.mapM_cons] at h
    simp only [Option.bind_eq_bind, Option.bind_eq_some_iff, Option.pure_def, Option.some.injEq] at h
    obtain ⟨y, hy, ys, hys, rfl⟩ := h
    simp only [List.map_cons, expFields] at he
    split at he
    case isFalse => cases he
    case isTrue ho =>
      simp only [Option.bind_eq_some_iff] at he
      obtain ⟨l1, h1, he⟩ := he
      split at he
      case isFalse => cases he
      case isTrue hl =>
        simp only [Option.map_eq_some_iff] at he
        obtain ⟨l2, h2, rfl⟩ := he
        have e1 := hgo _ _ _ _ hy h1
        rw [ho, ← hl] at e1
        have e2 := fields_eq go rd hgo cs fs ys (off + l1.length) l2 hys h2
        rw [List.length_append, List.take_add, e1, List.drop_drop, e2]
theorem elems_eq (go : DataW H → Option (List Value)) (rd : List Value → Option (DataW H × List MemPlace)) (size : Nat)
    (hgo : ∀ cs x l, rd cs = some x → go x.1 = some l → cs = l) (cs : List Value) :
    ∀ (xs : List (DataW H × List MemPlace)) (j : Nat) (l : List Value), (∀ i, i < xs.length → rd ((cs.drop ((j + i) * size)).take size) = xs[i]?) →
      expElems go size (xs.map (·.1)) = some l → (cs.drop (j * size)).take l.length = l
  | [], j, l, h, he => by
    simp [expElems] at he
    subst he
    rfl
  | x :: xs, j, l, h, he => by
    simp only [List.map_cons, expElems, Option.bind_eq_some_iff] at he
    obtain ⟨l1, h1, he⟩ := he
    split at he
    case isFalse => cases he
    case isTrue hl =>
      simp only [Option.map_eq_some_iff] at he
      obtain ⟨l2, h2, rfl⟩ := he
      have e0 := h 0 (by simp)
      simp only [Nat.add_zero, List.getElem?_cons_zero] at e0
      have e1 := hgo _ _ _ e0 h1
      have e2 := elems_eq go rd size hgo cs xs (j + 1) l2 (fun i hi => by
        have := h (i + 1) (by simp; omega)
        rw [show j + 1 + i = j + (i + 1) from by omega]
        simpa using this) h2
      rw [List.length_append, List.take_add, hl, e1, List.drop_drop, show j * size + size = (j + 1) * size from by rw [Nat.succ_mul], e2]
theorem cells_of_exp : ∀ (n fuel : Nat) (t : TypeId) (cs : List Value) (x : DataW H × List MemPlace) (l : List Value), DataW.trod enc P w base spare held fuel t cs = some x → exp P n t x.1 = some l → cs = l
  | 0, _, _, _, _, _, _, he => by simp [exp] at he
  | n + 1, fuel, t, cs, x, l, h, he => by
    unfold exp at he
    split at he
    · rename_i k k' i ht hd
      obtain ⟨m, rfl, hx, _⟩ := DataW.trod_int ht h
      rw [hx] at hd
      simp at hd
      obtain ⟨rfl, rfl⟩ := hd
      simpa using he
    · rename_i b ht hd
      obtain ⟨b', rfl, hx⟩ := DataW.trod_bool ht h
      rw [hx] at hd
      simp at hd
      subst hd
      simpa using he
    · rename_i b ht hd
      obtain ⟨b', rfl, hx, _⟩ := DataW.trod_string ht h
      rw [hx] at hd
      simp at hd
      subst hd
      simpa using he
    · rename_i fs ds ht hd
      obtain ⟨xs, m, hx, hl, hm⟩ := trod_struct ht h
      rw [hx] at hd
      simp only [DataW.agg.injEq] at hd
      subst hd
      simp only [Option.bind_eq_some_iff] at he
      obtain ⟨l1, h1, he⟩ := he
      split at he
      case isFalse => cases he
      case isTrue hl1 =>
        obtain rfl := Option.some.inj he
        have := fields_eq (exp P n) (DataW.trod enc P w base spare held m) (fun t cs x l => cells_of_exp n m t cs x l) cs fs.toList xs 0 l1 hm h1
        rw [List.drop_zero, List.take_of_length_le (by omega)] at this
        exact this
    · rename_i m e ds ht hd
      obtain ⟨xs, m', _, hx, hl, hxl, hel⟩ := DataW.trod_array ht h
      rw [hx] at hd
      simp only [DataW.agg.injEq] at hd
      subst hd
      split at he
      case isFalse => cases he
      case isTrue hn =>
        simp only [Option.bind_eq_some_iff] at he
        obtain ⟨l1, h1, he⟩ := he
        split at he
        case isFalse => cases he
        case isTrue hl1 =>
          obtain rfl := Option.some.inj he
          have := elems_eq (exp P n e) (DataW.trod enc P w base spare held m' e) (P.cellsOf e) (fun cs x l => cells_of_exp n m' e cs x l) cs xs 0 l1 (fun i hi => by rw [Nat.zero_add]; exact hel i (by omega)) h1
          rw [Nat.zero_mul, List.drop_zero, List.take_of_length_le (by omega)] at this
          exact this
    · cases he
end
/-- A listed variable's cells. -/
theorem laid_cell {P : Program} {laid : List (String × DataW Unit)} {w : World} (h : laidMet P laid w) {n : String} {d : DataW Unit} (hm : (n, d) ∈ laid) {g k : Nat} {t : TypeId} {l : List Value}
    (hg : P.globalNamed n = some g) (ht : (P.globals[g]?).map (·.type) = some t) (he : exp P k t d = some l) (i : Nat) : w.cell? ⟨g, i, none⟩ = l[i]? := by
  obtain ⟨ps, hv, h2⟩ := h
  clear h2
  induction laid generalizing ps with
  | nil => cases hm
  | cons y r ih =>
    obtain ⟨n', d'⟩ := y
    obtain ⟨g', t', cs, fuel, p, q, hg', ht', hw, htr, hr, _⟩ := hv
    rcases List.mem_cons.1 hm with hm | hm
    · obtain ⟨rfl, rfl⟩ := Prod.mk.inj hm
      obtain rfl := Option.some.inj (hg.symm.trans hg')
      obtain rfl := Option.some.inj (ht.symm.trans ht')
      have := cells_of_exp k fuel t cs.toList _ l htr he
      rw [World.var?_cell hg hw i, ← this]
      simp
    · exact ih hm q hr
end Go.Proofs.YtdbpaahdonplbaaGreatDoor.LaidCells
