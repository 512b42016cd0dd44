/- page.Good, of any value. page: the reader's small methods. Code, as it is looked at; written by wip/leancode.py. strconv.ParseUint of four hexadecimal digits. page: what stands behind a \. page: a tex -/
import Derived.Test.YtdbpaahdonplbaaGreatDoorJQ4
import Derived.Test.YtdbpaahdonplbaaGreatDoorJQ3
import Derived.Test.YtdbpaahdonplbaaGreatDoorJQ2
namespace Go.Abs.S
attribute [local go_sem] lguard aopO aop aenv toAV tput aLoad aStore vcells aBin aNilI aUn aAlloc aBox aBuild aBSlice afill aConv isIntT aappZ aCap aArr aMM aMake aSlice bnd3 bnd aFldAddr aFld aIdxAddr aIdx aExt aLen aCopy aEq0 bAV aUb aapp aappQ agh acont List.getD_cons_zero List.getD_cons_succ List.set_cons_zero List.set_cons_succ List.getElem?_cons_zero List.getElem?_cons_succ List.length_cons List.length_nil List.map_cons List.map_nil ints_length if_true if_false Bool.false_eq_true true_and and_true eq_self ne_eq not_false_eq_true not_true_eq_false beq_self_eq_true Nat.zero_add Nat.add_zero Nat.mul_one Nat.zero_mul Int.toNat_natCast List.toList_toArray List.all_cons List.all_nil AV.one Value.oneCell' Bool.and_true Bool.true_and forall_const true_implies false_implies implies_true Option.map_some Option.map_none Option.isSome_some Option.isSome_none imp_self rdP_flat rdP_row splice_one ints_set ints_get List.append_nil List.cons_append List.nil_append List.getElem?_toArray List.drop_zero ints_drop ints_take List.take_of_length_le splice_all ints_one Option.some.injEq Option.getD_some List.length_replicate zArr List.map_replicate rep_ints splice_intsR List.length_set List.length_append List.flatten_replicate_singleton rep_slice rep_string rep_bool rep_iface List.replicate_zero if_pos if_neg List.mapM_cons List.mapM_nil Option.pure_def Option.bind_eq_bind Option.bind_some Bool.true_eq_false Bool.not_false Bool.not_true get_concat set_concat
open Go.Proofs
set_option linter.unusedVariables false
set_option linter.unusedSimpArgs false
set_option maxRecDepth 100000
set_option maxHeartbeats 4000000
theorem size0 (t : ByteArray) : (t.toList == (⟨#[]⟩ : ByteArray).toList) = decide (t.size = 0) := by
  rw [stA_beq, Bool.eq_iff_iff, decide_eq_true_eq, decide_eq_true_eq]
  constructor
  · rintro rfl
    rfl
  · intro h
    cases t
    rename_i a
    have : a = #[] := Array.eq_empty_of_size_eq_zero h
    rw [this]
theorem intz (n : Nat) : (((n : Nat) : Int) == 0) = decide (n = 0) := by
  rw [Bool.eq_iff_iff, beq_iff_eq, decide_eq_true_eq]
  omega
theorem intq (n m : Nat) : (((n : Nat) : Int) == ((m : Nat) : Int)) = decide (n = m) := by
  rw [Bool.eq_iff_iff, beq_iff_eq, decide_eq_true_eq]
  omega
theorem intl (n m : Nat) : decide (((n : Nat) : Int) ≤ ((m : Nat) : Int)) = decide (n ≤ m) := by
  rw [Bool.eq_iff_iff, decide_eq_true_eq, decide_eq_true_eq]
  omega
theorem form_p (v : Val) (h : small1 v) : PCall Tryz.prog glob 38 [vA v] (.v (.bool (formV v))) := by
  refine PCall.of ctx.nr (List.forall_mem_cons.2 ⟨NR.vA v, fun _ h => absurd h List.not_mem_nil⟩) (NR.v _) ?_
  refine lcall38 (by simp) 0 (Nat.le_refl _) ?_
  obtain ⟨k, t, ns, vs⟩ := v
  obtain ⟨ht, hn, hz, hv⟩ := h
  unfold vA formV
  rw [Val.cells]
  unfold lc38
  refine I1 tt ⟨?_⟩
  obtain ⟨bt, hbt⟩ : ∃ b, decide (t.size = 0) = b := ⟨_, rfl⟩
  obtain ⟨bn, hbn⟩ : ∃ b, decide (ns.length = 0) = b := ⟨_, rfl⟩
  obtain ⟨bv, hbv⟩ : ∃ b, decide (vs.length = 0) = b := ⟨_, rfl⟩
  have zt := size0 t
  have zn := intz ns.length
  have zv := intz vs.length
  rw [hbt] at zt ⊢
  rw [hbn] at zn ⊢
  rw [hbv] at zv ⊢
  by_cases h0 : k = 0
  · subst h0
    rw [if_pos (by simp)]
    cases bt <;> cases bn <;> cases bv
    all_goals
      refine G1 F4 (an zt (an zn (an zv tt))) tt tt tt ⟨?_⟩
      refine R1 tt ⟨?_⟩
      exact end0 (NR.v _) rfl
  by_cases h1 : k = 1
  · subst h1
    rw [if_pos (by simp)]
    cases bt <;> cases bn <;> cases bv
    all_goals
      refine G1 F4 (an zt (an zn (an zv tt))) tt tt tt ⟨?_⟩
      refine R1 tt ⟨?_⟩
      exact end0 (NR.v _) rfl
  by_cases h2 : k = 2
  · subst h2
    rw [if_pos (by simp)]
    cases bt <;> cases bn <;> cases bv
    all_goals
      refine G1 F4 (an zt (an zn (an zv tt))) tt tt tt ⟨?_⟩
      refine R1 tt ⟨?_⟩
      exact end0 (NR.v _) rfl
  rw [if_neg (by omega)]
  by_cases h3 : k = 3
  · subst h3
    rw [if_pos rfl]
    have np : t.size ≤ 40 → PCall Tryz.prog glob 35 [stA t] (ivC (nuL (bl t))) := fun h => pnum_p (bl t) (by have e : (bl t).length = t.size := Array.length_toList; omega)
    obtain ⟨b40, h40⟩ : ∃ b, decide (t.size ≤ 40) = b := ⟨_, rfl⟩
    obtain ⟨bq, hq⟩ : ∃ b, decide (nuL (bl t) = t.size) = b := ⟨_, rfl⟩
    have z40 := intl t.size 40
    have zq := intq (nuL (bl t)) t.size
    rw [h40] at z40 ⊢
    rw [hq] at zq ⊢
    cases b40 with
    | false =>
      have z40 : decide ((t.size : Int) ≤ 40) = false := z40
      cases bt <;> cases bn <;> cases bv
      all_goals
        refine G1 F4 (an zt (an zn (an zv (an z40 tt)))) tt tt tt ⟨?_⟩
        refine R1 tt ⟨?_⟩
        exact end0 (NR.v _) rfl
    | true =>
      have z40 : decide ((t.size : Int) ≤ 40) = true := z40
      have np := np (by simpa using h40)
      cases bt <;> cases bn <;> cases bv <;> cases bq
      all_goals
        refine G1 F4 (an zt (an zn (an zv (an z40 (an zq tt))))) (an np.go tt) tt tt ⟨?_⟩
        refine R1 tt ⟨?_⟩
        exact end0 (NR.v _) rfl
  rw [if_neg h3]
  have k0 : ((k : Int) == 0) = false := by rw [beq_eq_false_iff_ne, ne_eq]; omega
  have k1 : ((k : Int) == 1) = false := by rw [beq_eq_false_iff_ne, ne_eq]; omega
  have k2 : ((k : Int) == 2) = false := by rw [beq_eq_false_iff_ne, ne_eq]; omega
  have k3 : ((k : Int) == 3) = false := by rw [beq_eq_false_iff_ne, ne_eq]; omega
  by_cases h4 : k = 4
  · subst h4
    rw [if_pos rfl]
    have vp := valid_p t ht
    obtain ⟨w, hw⟩ : ∃ w, validP t = w := ⟨_, rfl⟩
    rw [hw] at vp ⊢
    cases bn <;> cases bv <;> cases w
    all_goals
      refine G1 F4 (an zt (an zn (an zv tt))) (an vp.go tt) tt tt ⟨?_⟩
      refine R1 tt ⟨?_⟩
      exact end0 (NR.v _) rfl
  rw [if_neg h4]
  by_cases h5 : k = 5
  · subst h5
    rw [if_pos rfl]
    cases bt <;> cases bn
    all_goals
      refine G1 F4 (an zt (an zn (an zv tt))) tt tt tt ⟨?_⟩
      refine R1 tt ⟨?_⟩
      exact end0 (NR.v _) rfl
  rw [if_neg h5]
  by_cases h6 : k = 6
  · subst h6
    rw [if_pos rfl]
    have cf := fun c => ctf_p ns c hn hz
    obtain ⟨w, hw⟩ : ∃ w, ns.all validP = w := ⟨_, rfl⟩
    have zm := intq ns.length vs.length
    obtain ⟨bm, hm⟩ : ∃ b, decide (ns.length = vs.length) = b := ⟨_, rfl⟩
    rw [hw] at cf ⊢
    rw [hm] at zm ⊢
    cases bt <;> cases bm <;> cases w
    all_goals
      repeat (first
        | (with_reducible refine lops_step fun K hK => ?_; simp (disch := first | exact dch | fail) only [go_sem, Nat.reduceAdd, Nat.reduceSub, reduceIte, Nat.reduceEqDiff, Int.reduceToNat, Int.reduceBEq, Int.reduceBNe, zt, zm, Bool.not_not]; (try (first | (refine And.intro (fun _ => ?_) (fun h => absurd h (by decide))) | (refine And.intro (fun h => absurd h (by decide)) (fun _ => ?_)))); (repeat (with_reducible refine And.intro acl ?_)); (first | (refine hK _ _ ?_) | (refine ⟨_, rfl, hK _ _ ?_⟩) | (refine Or.inl (hK _ _ ?_)) | (refine ⟨_, _, Or.inl ((cf _).go _), (by first | exact ⟨[], (List.append_nil _).symm⟩ | exact ⟨_, rfl⟩), hK _ _ ?_⟩) | (refine ⟨_, _, Or.inl ((cf _).go _), hK _ _ ?_⟩) | (refine ⟨_, _, Or.inl ((cf _).go _).weakQ, hK _ _ ?_⟩)); clear hK K)
        | (with_reducible refine lops_nil ?_)
        | (with_reducible first | refine lavc_reg ?_ | refine lavc_seq ?_ | refine lavc_block ?_ | refine lavc_skip ?_ | refine lavc_exit ?_ | refine lavc_ret ?_ | refine lavcR_round ?_)
        | (refine lavc_cond rfl (fun _ => ?_) (fun hc => absurd hc (by decide)))
        | (refine lavc_cond rfl (fun hc => absurd hc (by decide)) (fun _ => ?_))
        | (simp only [↓reduceIte, Nat.reduceEqDiff, reduceCtorEq]))
      refine R1 tt ⟨?_⟩
      exact end0 (NR.v _) rfl
  rw [if_neg h6]
  have k4 : ((k : Int) == 4) = false := by rw [beq_eq_false_iff_ne, ne_eq]; omega
  have k5 : ((k : Int) == 5) = false := by rw [beq_eq_false_iff_ne, ne_eq]; omega
  have k6 : ((k : Int) == 6) = false := by rw [beq_eq_false_iff_ne, ne_eq]; omega
  refine G1 F4 (an k0 (an k1 (an k2 (an k3 (an k4 (an k5 (an k6 tt))))))) tt tt tt ⟨?_⟩
  refine R1 tt ⟨?_⟩
  exact end0 (NR.v _) rfl
theorem good_v : ∀ v : Val, small v → ∀ d : Int, 1 ≤ d → d ≤ 9 → PCall Tryz.prog glob 28 [vA v, ivC d] (ivC (goodV v d)) := Val.ind fun k t ns vs ih hsm d hd1 hd9 => by
  obtain ⟨h1, hall⟩ := hsm.at
  have fp := form_p (.mk k t ns vs) h1
  obtain ⟨ht, hn, hz, hv⟩ := h1
  have tp := fun c => twice_p ns c hn
  have hlx := cellsL_length vs
  refine PCall.of ctx.nr (List.forall_mem_cons.2 ⟨NR.vA _, List.forall_mem_cons.2 ⟨NR.v _, fun _ h => absurd h List.not_mem_nil⟩⟩) (NR.v _) ?_
  refine lcall28 (by simp) 0 (Nat.le_refl _) ?_
  rw [goodV]
  unfold vA at fp ⊢
  rw [Val.cells] at fp ⊢
  unfold lc28
  refine I1 tt ⟨?_⟩
  by_cases h8 : 8 < d
  · rw [if_pos h8]
    have e8 : decide (d > 8) = true := by rw [decide_eq_true_eq]; omega
    refine G1 F4 (an e8 tt) tt tt tt ⟨?_⟩
    refine R1 tt ⟨?_⟩
    exact end0 (NR.v _) rfl
  rw [if_neg h8]
  have e8 : decide (d > 8) = false := by rw [decide_eq_false_iff_not]; omega
  cases hf : formV (.mk k t ns vs) with
  | false =>
    rw [hf] at fp
    rw [if_pos rfl]
    refine G1 F4 (an e8 tt) (an fp.go tt) tt tt ⟨?_⟩
    refine R1 tt ⟨?_⟩
    exact end0 (NR.v _) rfl
  | true =>
    rw [hf] at fp
    rw [if_neg (by decide)]
    by_cases h64 : 64 < vs.length
    · rw [if_pos h64]
      have d1 : decide ((vs.length : Int) > 64) = true := by rw [decide_eq_true_eq]; omega
      refine G1 F4 (an e8 (an d1 tt)) (an fp.go tt) tt tt ⟨?_⟩
      refine R1 tt ⟨?_⟩
      exact end0 (NR.v _) rfl
    rw [if_neg h64]
    have d1 : decide ((vs.length : Int) > 64) = false := by rw [decide_eq_false_iff_not]; omega
    cases htw : twiceP ns with
    | true =>
      rw [htw] at tp
      rw [if_pos rfl]
      refine G1 F4 (an e8 (an d1 tt)) (an fp.go tt) (an (fun u => (tp u).go) tt) tt ⟨?_⟩
      refine R1 tt ⟨?_⟩
      exact end0 (NR.v _) rfl
    | false =>
      rw [htw] at tp
      rw [if_neg (by decide)]
      obtain ⟨V, hV⟩ : ∃ V, goodL vs (d + 1) = V := ⟨_, rfl⟩
      rw [hV]
      refine G1 F4 (an e8 (an d1 tt)) (an fp.go tt) (an (fun u => (tp u).go) tt) tt ⟨?_⟩
      refine lavc_loopM ms28_0 (fun m (x : Nat × AHeap) => m + x.1 = vs.length ∧ goodL (vs.drop x.1) (d + 1) = V) (fun x => [(27, ivC x.1)]) (fun x => [Blk.mk [ivC k, stA t, .vsl ns.length (strs ns) none, .vsl vs.length (cellsL vs) none] 0 true 26] ++ x.2) vs.length (0, []) ⟨by omega, hV⟩ ?_ ?_ ?_
      · try unfold ms28_0
        refine A1 tt ⟨?_⟩
        rfl
      · rfl
      rintro m ⟨j, gg⟩ ⟨hk, hi⟩
      simp only at hk hi ⊢
      try unfold ms28_0
      refine M1 tt ⟨?_⟩
      refine G1 F1 tt tt tt tt ⟨?_⟩
      refine cnd rfl (fun hc => ?_) (fun hc => ?_)
      · have hkl : j < vs.length := by omega
        have hat := cellsL_at vs j hkl
        rw [goodL_step vs j hkl] at hi
        have hmem := getD_mem vs j hkl
        obtain ⟨y, hy⟩ : ∃ y, vs.getD j default = y := ⟨_, rfl⟩
        rw [hy] at hat hi hmem
        have gt := ih y hmem (hall y hmem) (d + 1) (by omega) (by omega)
        have e3 := i64n ((j : Int) + 1) (j + 1) (by omega) (by omega)
        have e2 := i64z (d + 1) (by omega)
        obtain ⟨w, hw⟩ : ∃ w, goodV y (d + 1) = w := ⟨_, rfl⟩
        rw [hw] at gt hi
        obtain ⟨k', t', ns', vs'⟩ := y
        unfold vA at gt
        rw [Val.cells] at gt hat
        by_cases h0 : w = 0
        · subst h0
          rw [if_pos rfl] at hi
          refine G1 F4 (an hat (an hlx (an e2 (an e3 tt)))) (an gt.go tt) tt tt ⟨?_⟩
          refine ⟨m - 1, (j + 1, gg ++ [⟨[ivC k', stA t', .vsl ns'.length (strs ns') none, .vsl vs'.length (cellsL vs') none], 0, true, 26⟩]), by omega, ⟨by show m - 1 + (j + 1) = vs.length; omega, hi⟩, ?_, (by first | rfl | trivial)⟩
          try unfold ms28_0
          exact A0 tt
        · rw [if_neg h0] at hi
          have dw : ((w : Int) != 0) = true := by rw [bne_iff_ne, ne_eq]; omega
          refine G1 F4 (an hat (an hlx (an e2 (an e3 (an dw tt))))) (an gt.go tt) tt tt ⟨?_⟩
          refine R1 tt ⟨?_⟩
          exact end0 (NR.v _) (by rw [← hi])
      · have hk2 : j = vs.length := by omega
        rw [hk2, List.drop_length] at hi
        refine G1 F4 tt tt tt tt ⟨?_⟩
        refine R1 tt ⟨?_⟩
        exact end0 (NR.v _) (by rw [← hi]; rfl)
theorem Good_v (v : Val) (h : small v) : PCall Tryz.prog glob 16 [vA v] (ivC (goodV v 1)) := by
  refine PCall.of ctx.nr (List.forall_mem_cons.2 ⟨NR.vA v, fun _ h => absurd h List.not_mem_nil⟩) (NR.v _) ?_
  refine lcall16 (by simp) 0 (Nat.le_refl _) ?_
  have gp := good_v v h 1 (by decide) (by decide)
  obtain ⟨w, hw⟩ : ∃ w, goodV v 1 = w := ⟨_, rfl⟩
  rw [hw] at gp ⊢
  obtain ⟨k, t, ns, vs⟩ := v
  unfold vA at gp ⊢
  rw [Val.cells] at gp ⊢
  unfold lc16
  refine I1 tt ⟨?_⟩
  refine G1 F4 tt (an gp.go tt) tt tt ⟨?_⟩
  refine R1 tt ⟨?_⟩
  exact end0 (NR.v _) rfl
end Go.Abs.S
namespace Go.Abs.S
attribute [local go_sem] lguard aopO aop aenv toAV tput aLoad aStore vcells aBin aNilI aUn aAlloc aBox aBuild aBSlice afill aConv isIntT aappZ aCap aArr aMM aMake aSlice bnd3 bnd aFldAddr aFld aIdxAddr aIdx aExt aLen aCopy aEq0 bAV aUb aapp aappQ agh acont List.getD_cons_zero List.getD_cons_succ List.set_cons_zero List.set_cons_succ List.getElem?_cons_zero List.getElem?_cons_succ List.length_cons List.length_nil List.map_cons List.map_nil ints_length if_true if_false Bool.false_eq_true true_and and_true eq_self ne_eq not_false_eq_true not_true_eq_false beq_self_eq_true Nat.zero_add Nat.add_zero Nat.mul_one Nat.zero_mul Int.toNat_natCast List.toList_toArray List.all_cons List.all_nil AV.one Value.oneCell' Bool.and_true Bool.true_and forall_const true_implies false_implies implies_true Option.map_some Option.map_none Option.isSome_some Option.isSome_none imp_self rdP_flat rdP_row splice_one ints_set ints_get List.append_nil List.cons_append List.nil_append List.getElem?_toArray List.drop_zero ints_drop ints_take List.take_of_length_le splice_all ints_one Option.some.injEq Option.getD_some List.length_replicate zArr List.map_replicate rep_ints splice_intsR List.length_set List.length_append List.flatten_replicate_singleton rep_slice rep_string rep_bool rep_iface List.replicate_zero if_pos if_neg List.mapM_cons List.mapM_nil Option.pure_def Option.bind_eq_bind Option.bind_some Bool.true_eq_false Bool.not_false Bool.not_true get_concat set_concat
open Go.Proofs
set_option linter.unusedVariables false
set_option linter.unusedSimpArgs false
set_option maxRecDepth 100000
set_option maxHeartbeats 4000000
/-- A reader. -/
abbrev RB (s : St) : Blk := ⟨[.v (.string (bs s.1)), .v (.int .i64 s.2)], 0, true, 56⟩
theorem RB.nr (s : St) : ∀ c ∈ (RB s).cells, NR c := by
  intro c hc
  simp only [List.mem_cons, List.not_mem_nil, or_false] at hc
  rcases hc with rfl | rfl <;> exact NR.v _
theorem blanks_m (s : St) : MCall Tryz.prog glob 20 [] (RB s) (.tup []) (RB (blanksP s)) := by
  obtain ⟨l, f⟩ := s
  refine MCall.of ctx.nr rfl rfl nrs NR.tup0 (RB.nr _) (RB.nr _) ?_
  refine lcall20 (by simp) 1 (Nat.le_refl _) ?_
  unfold lc20
  refine I1 tt ⟨?_⟩
  have tp := triml_p l
  refine G1 F4 tt (an tp.go tt) tt tt ⟨?_⟩
  refine R1 tt ⟨?_⟩
  exact end1 NR.tup0 rfl (RB.nr _) rfl
theorem give_m (e : Int) (s : St) : MCall Tryz.prog glob 21 [.v (.int .i64 e)] (RB s) (.tup []) (RB (giveP e s)) := by
  obtain ⟨l, f⟩ := s
  refine MCall.of ctx.nr rfl rfl nrs NR.tup0 (RB.nr _) (RB.nr _) ?_
  refine lcall21 (by simp) 1 (Nat.le_refl _) ?_
  unfold lc21
  refine I1 tt ⟨?_⟩
  unfold giveP
  by_cases h : f = 0
  · subst h
    rw [if_pos rfl]
    refine G1 F4 tt tt tt tt ⟨?_⟩
    refine R1 tt ⟨?_⟩
    exact end1 NR.tup0 rfl (RB.nr _) rfl
  · rw [if_neg h]
    have q : ((f : Int) == 0) = false := by rw [beq_eq_false_iff_ne, ne_eq]; omega
    refine G1 F4 (an q tt) tt tt tt ⟨?_⟩
    refine R1 tt ⟨?_⟩
    exact end1 NR.tup0 rfl (RB.nr _) rfl
theorem take_m (p : List UInt8) (s : St) : MCall Tryz.prog glob 32 [.v (.string (bs p))] (RB s) (.v (.bool (p.isPrefixOf s.1))) (RB (takeP p s)) := by
  obtain ⟨l, f⟩ := s
  refine MCall.of ctx.nr rfl rfl nrs (NR.v _) (RB.nr _) (RB.nr _) ?_
  refine lcall32 (by simp) 1 (Nat.le_refl _) ?_
  unfold lc32
  refine I1 tt ⟨?_⟩
  have cp := cut_p l p
  refine G1 F4 tt (an cp.go tt) tt tt ⟨?_⟩
  refine R1 tt ⟨?_⟩
  exact end1 (NR.v _) rfl (RB.nr _) rfl
end Go.Abs.S
namespace Go.Abs.S
open Go.Proofs
set_option maxRecDepth 100000
def impCodU : FuncId → Bool := fun f => f == 17 || f == 18 || f == 19 || f == 20 || f == 21 || f == 29 || f == 31 || f == 32 || f == 33 || f == 34 || f == 40 || f == 46 || f == 47 || f == 68
/-- strconv.ParseUint -/
def lc66 : LCode := .seq (.reg []
  [o1 6 (.assign (.const (.int .u64 0))),
  o1 7 (.assign (.const .nilIface))]) (.seq (.reg []
  [o1 11 (.move (.tmp 0)),
  o1 12 (.move (.tmp 1)),
  o1 13 (.move (.tmp 2)),
  o1 14 (.call ⟨.value (.func 77), #[.tmp 11, .tmp 12, .tmp 13], #[9, 3, 3]⟩),
  o1 10 (.move (.tmp 14)),
  o1 15 (.extract (.tmp 10) 0),
  o1 16 (.extract (.tmp 10) 1),
  o1 8 (.assign (.tmp 15)),
  o1 9 (.assign (.tmp 16))]) (.seq (.seq (.reg []
  [o1 17 (.move (.tmp 9)),
  o1 18 (.binOp .neq 66 (.tmp 17) (.const .nilIface) 66)]) (.cond (.tmp 18) (.seq (.reg []
  [o1 19 (.move (.tmp 8)),
  o1 20 (.move (.tmp 0)),
  o1 21 (.move (.tmp 1)),
  o1 22 (.move (.tmp 2)),
  o1 23 (.move (.tmp 9)),
  o1 24 (.call ⟨.value (.func 78), #[.const (.string { data := #[80, 97, 114, 115, 101, 85, 105, 110, 116] }), .tmp 20, .tmp 21, .tmp 22, .tmp 23], #[9, 9, 3, 3, 66]⟩),
  o1 6 (.assign (.tmp 19)),
  o1 7 (.assign (.tmp 24))]) (.ret)) (.skip))) (.seq (.reg []
  [o1 25 (.move (.tmp 8)),
  o1 6 (.assign (.tmp 25)),
  o1 7 (.assign (.const .nilIface))]) (.ret))))
theorem ls66 : Tryz.f66.body.map (strip Tryz.prog impCodU) = some lc66 := by kernel_rfl
theorem lcall66 : LC 66 26 lc66 [.tmp 6, .tmp 7] := LC.of Tryz.func66 (by kernel_rfl) ls66 (by kernel_rfl) (by kernel_rfl)
/-- internal/strconv.ParseUint -/
def lc77 : LCode := .seq (.reg []
  [o1 6 (.assign (.const (.int .u64 0))),
  o1 7 (.assign (.const .nilIface))]) (.seq (.seq (.reg []
  [o1 18 (.move (.tmp 0)),
  o1 19 (.binOp .eql 9 (.tmp 18) (.const (.string { data := #[] })) 9)]) (.cond (.tmp 19) (.seq (.reg []
  [o1 20 (.makeInterface 114 (.const (.int .i64 2))),
  o1 6 (.assign (.const (.int .u64 0))),
  o1 7 (.assign (.tmp 20))]) (.ret)) (.skip))) (.seq (.reg []
  [o1 21 (.move (.tmp 1)),
  o1 22 (.binOp .eql 3 (.tmp 21) (.const (.int .i64 0)) 3),
  o1 8 (.assign (.tmp 22))]) (.seq (.reg []
  [o1 23 (.move (.tmp 0)),
  o1 9 (.assign (.tmp 23))]) (.seq (.block 0 (.seq (.reg []
  [o1 26 (.move (.tmp 1)),
  o1 27 (.binOp .leq 3 (.const (.int .i64 2)) (.tmp 26) 3),
  o1 28 (.move (.tmp 27)),
  o2 29 (.move (.tmp 1)) 28 true,
  o2 30 (.binOp .leq 3 (.tmp 29) (.const (.int .i64 36)) 3) 28 true,
  o1 31 (.pick (.tmp 28) (.tmp 30) (.const (.bool false))),
  o1 25 (.assign (.tmp 31))]) (.cond (.tmp 25) (.skip) (.seq (.reg []
  [o1 33 (.move (.tmp 1)),
  o1 34 (.binOp .eql 3 (.tmp 33) (.const (.int .i64 0)) 3),
  o1 32 (.assign (.tmp 34))]) (.cond (.tmp 32) (.seq (.reg []
  [o1 1 (.assign (.const (.int .i64 10)))]) (.seq (.reg []
  [o1 35 (.move (.tmp 0)),
  o1 36 (.index 9 (.tmp 35) (.const (.int .i64 0))),
  o1 37 (.binOp .eql 5 (.tmp 36) (.const (.int .u8 48)) 5)]) (.cond (.tmp 37) (.block 1 (.seq (.reg []
  [o1 41 (.move (.tmp 0)),
  o1 42 (.call ⟨.builtin .len, #[.tmp 41], #[9]⟩),
  o1 43 (.binOp .geq 3 (.tmp 42) (.const (.int .i64 3)) 3),
  o1 44 (.move (.tmp 43)),
  o2 45 (.move (.tmp 0)) 44 true,
  o2 46 (.index 9 (.tmp 45) (.const (.int .i64 1))) 44 true,
  o2 47 (.call ⟨.value (.func 82), #[.tmp 46], #[5]⟩) 44 true,
  o2 48 (.binOp .eql 5 (.tmp 47) (.const (.int .u8 98)) 5) 44 true,
  o1 49 (.pick (.tmp 44) (.tmp 48) (.const (.bool false))),
  o1 40 (.assign (.tmp 49))]) (.cond (.tmp 40) (.seq (.reg []
  [o1 1 (.assign (.const (.int .i64 2)))]) (.reg []
  [o1 50 (.move (.tmp 0)),
  o1 51 (.slice 9 (.tmp 50) (some (.const (.int .i64 2))) none none),
  o1 0 (.assign (.tmp 51))])) (.seq (.reg []
  [o1 53 (.move (.tmp 0)),
  o1 54 (.call ⟨.builtin .len, #[.tmp 53], #[9]⟩),
  o1 55 (.binOp .geq 3 (.tmp 54) (.const (.int .i64 3)) 3),
  o1 56 (.move (.tmp 55)),
  o2 57 (.move (.tmp 0)) 56 true,
  o2 58 (.index 9 (.tmp 57) (.const (.int .i64 1))) 56 true,
  o2 59 (.call ⟨.value (.func 82), #[.tmp 58], #[5]⟩) 56 true,
  o2 60 (.binOp .eql 5 (.tmp 59) (.const (.int .u8 111)) 5) 56 true,
  o1 61 (.pick (.tmp 56) (.tmp 60) (.const (.bool false))),
  o1 52 (.assign (.tmp 61))]) (.cond (.tmp 52) (.seq (.reg []
  [o1 1 (.assign (.const (.int .i64 8)))]) (.reg []
  [o1 62 (.move (.tmp 0)),
  o1 63 (.slice 9 (.tmp 62) (some (.const (.int .i64 2))) none none),
  o1 0 (.assign (.tmp 63))])) (.seq (.reg []
  [o1 65 (.move (.tmp 0)),
  o1 66 (.call ⟨.builtin .len, #[.tmp 65], #[9]⟩),
  o1 67 (.binOp .geq 3 (.tmp 66) (.const (.int .i64 3)) 3),
  o1 68 (.move (.tmp 67)),
  o2 69 (.move (.tmp 0)) 68 true,
  o2 70 (.index 9 (.tmp 69) (.const (.int .i64 1))) 68 true,
  o2 71 (.call ⟨.value (.func 82), #[.tmp 70], #[5]⟩) 68 true,
  o2 72 (.binOp .eql 5 (.tmp 71) (.const (.int .u8 120)) 5) 68 true,
  o1 73 (.pick (.tmp 68) (.tmp 72) (.const (.bool false))),
  o1 64 (.assign (.tmp 73))]) (.cond (.tmp 64) (.seq (.reg []
  [o1 1 (.assign (.const (.int .i64 16)))]) (.reg []
  [o1 74 (.move (.tmp 0)),
  o1 75 (.slice 9 (.tmp 74) (some (.const (.int .i64 2))) none none),
  o1 0 (.assign (.tmp 75))])) (.seq (.reg []
  [o1 1 (.assign (.const (.int .i64 8)))]) (.reg []
  [o1 38 (.move (.tmp 0)),
  o1 39 (.slice 9 (.tmp 38) (some (.const (.int .i64 1))) none none),
  o1 0 (.assign (.tmp 39))]))))))))) (.skip)))) (.seq (.reg []
  [o1 24 (.makeInterface 114 (.const (.int .i64 3))),
  o1 6 (.assign (.const (.int .u64 0))),
  o1 7 (.assign (.tmp 24))]) (.ret))))))) (.seq (.seq (.reg []
  [o1 76 (.move (.tmp 2)),
  o1 77 (.binOp .eql 3 (.tmp 76) (.const (.int .i64 0)) 3)]) (.cond (.tmp 77) (.reg []
  [o1 2 (.assign (.const (.int .i64 64)))]) (.seq (.reg []
  [o1 78 (.move (.tmp 2)),
  o1 79 (.binOp .lss 3 (.tmp 78) (.const (.int .i64 0)) 3),
  o1 80 (.move (.tmp 79)),
  o2 81 (.move (.tmp 2)) 80 false,
  o2 82 (.binOp .gtr 3 (.tmp 81) (.const (.int .i64 64)) 3) 80 false,
  o1 83 (.pick (.tmp 80) (.const (.bool true)) (.tmp 82))]) (.cond (.tmp 83) (.seq (.reg []
  [o1 84 (.makeInterface 114 (.const (.int .i64 4))),
  o1 6 (.assign (.const (.int .u64 0))),
  o1 7 (.assign (.tmp 84))]) (.ret)) (.skip))))) (.seq (.reg []
  [o1 10 (.assign (.const (.int .u64 0)))]) (.seq (.seq (.reg []
  [o1 85 (.move (.tmp 1))]) (.block 2 (.seq (.reg []
  [o1 91 (.binOp .eql 3 (.tmp 85) (.const (.int .i64 10)) 3),
  o1 90 (.assign (.tmp 91))]) (.cond (.tmp 90) (.reg []
  [o1 10 (.assign (.const (.int .u64 1844674407370955162)))]) (.seq (.reg []
  [o1 93 (.binOp .eql 3 (.tmp 85) (.const (.int .i64 16)) 3),
  o1 92 (.assign (.tmp 93))]) (.cond (.tmp 92) (.reg []
  [o1 10 (.assign (.const (.int .u64 1152921504606846976)))]) (.reg []
  [o1 86 (.move (.tmp 1)),
  o1 87 (.convert 3 99 (.tmp 86)),
  o1 88 (.binOp .quo 99 (.const (.int .u64 18446744073709551615)) (.tmp 87) 99),
  o1 89 (.binOp .add 99 (.tmp 88) (.const (.int .u64 1)) 99),
  o1 10 (.assign (.tmp 89))]))))))) (.seq (.reg []
  [o1 94 (.move (.tmp 2)),
  o1 95 (.convert 3 109 (.tmp 94)),
  o1 96 (.binOp .shl 99 (.const (.int .u64 1)) (.tmp 95) 109),
  o1 97 (.binOp .sub 99 (.tmp 96) (.const (.int .u64 1)) 99),
  o1 11 (.assign (.tmp 97))]) (.seq (.reg []
  [o1 12 (.assign (.const (.bool false)))]) (.seq (.reg []
  [o1 13 (.assign (.const (.int .u64 0)))]) (.seq (.seq (.reg []
  [o1 98 (.move (.tmp 0)),
  o1 99 (.convert 9 49 (.tmp 98)),
  o1 100 (.call ⟨.builtin .len, #[.tmp 99], #[49]⟩),
  o1 101 (.move (.const (.int .i64 0)))]) (.block 3 (.loop (.seq (.reg []
  [o1 102 (.binOp .lss 3 (.tmp 101) (.tmp 100) 3)]) (.seq (.cond (.tmp 102) (.skip) (.exit 3)) (.seq (.block 4 (.seq (.reg []
  [o1 103 (.indexAddr 49 (.tmp 99) (.tmp 101)),
  o1 104 (.load 5 (.tmp 103)),
  o1 15 (.assign (.tmp 104))]) (.seq (.reg []
  [o1 16 (.assign (.const (.int .u8 0)))]) (.seq (.block 5 (.seq (.reg []
  [o1 107 (.move (.tmp 15)),
  o1 108 (.binOp .eql 5 (.tmp 107) (.const (.int .u8 95)) 5),
  o1 109 (.move (.tmp 108)),
  o2 110 (.move (.tmp 8)) 109 true,
  o1 111 (.pick (.tmp 109) (.tmp 110) (.const (.bool false))),
  o1 106 (.assign (.tmp 111))]) (.cond (.tmp 106) (.seq (.reg []
  [o1 12 (.assign (.const (.bool true)))]) (.exit 4)) (.seq (.reg []
  [o1 113 (.move (.tmp 15)),
  o1 114 (.binOp .leq 5 (.const (.int .u8 48)) (.tmp 113) 5),
  o1 115 (.move (.tmp 114)),
  o2 116 (.move (.tmp 15)) 115 true,
  o2 117 (.binOp .leq 5 (.tmp 116) (.const (.int .u8 57)) 5) 115 true,
  o1 118 (.pick (.tmp 115) (.tmp 117) (.const (.bool false))),
  o1 112 (.assign (.tmp 118))]) (.cond (.tmp 112) (.reg []
  [o1 119 (.move (.tmp 15)),
  o1 120 (.binOp .sub 5 (.tmp 119) (.const (.int .u8 48)) 5),
  o1 16 (.assign (.tmp 120))]) (.seq (.reg []
  [o1 122 (.move (.tmp 15)),
  o1 123 (.call ⟨.value (.func 82), #[.tmp 122], #[5]⟩),
  o1 124 (.binOp .leq 5 (.const (.int .u8 97)) (.tmp 123) 5),
  o1 125 (.move (.tmp 124)),
  o2 126 (.move (.tmp 15)) 125 true,
  o2 127 (.call ⟨.value (.func 82), #[.tmp 126], #[5]⟩) 125 true,
  o2 128 (.binOp .leq 5 (.tmp 127) (.const (.int .u8 122)) 5) 125 true,
  o1 129 (.pick (.tmp 125) (.tmp 128) (.const (.bool false))),
  o1 121 (.assign (.tmp 129))]) (.cond (.tmp 121) (.reg []
  [o1 130 (.move (.tmp 15)),
  o1 131 (.call ⟨.value (.func 82), #[.tmp 130], #[5]⟩),
  o1 132 (.binOp .sub 5 (.tmp 131) (.const (.int .u8 97)) 5),
  o1 133 (.binOp .add 5 (.tmp 132) (.const (.int .u8 10)) 5),
  o1 16 (.assign (.tmp 133))]) (.seq (.reg []
  [o1 105 (.makeInterface 114 (.const (.int .i64 2))),
  o1 6 (.assign (.const (.int .u64 0))),
  o1 7 (.assign (.tmp 105))]) (.ret))))))))) (.seq (.seq (.reg []
  [o1 134 (.move (.tmp 16)),
  o1 135 (.move (.tmp 1)),
  o1 136 (.convert 3 5 (.tmp 135)),
  o1 137 (.binOp .geq 5 (.tmp 134) (.tmp 136) 5)]) (.cond (.tmp 137) (.seq (.reg []
  [o1 138 (.makeInterface 114 (.const (.int .i64 2))),
  o1 6 (.assign (.const (.int .u64 0))),
  o1 7 (.assign (.tmp 138))]) (.ret)) (.skip))) (.seq (.seq (.reg []
  [o1 139 (.move (.tmp 13)),
  o1 140 (.move (.tmp 10)),
  o1 141 (.binOp .geq 99 (.tmp 139) (.tmp 140) 99)]) (.cond (.tmp 141) (.seq (.reg []
  [o1 142 (.move (.tmp 11)),
  o1 143 (.makeInterface 114 (.const (.int .i64 1))),
  o1 6 (.assign (.tmp 142)),
  o1 7 (.assign (.tmp 143))]) (.ret)) (.skip))) (.seq (.reg []
  [o1 144 (.move (.tmp 13)),
  o1 145 (.move (.tmp 1)),
  o1 146 (.convert 3 99 (.tmp 145)),
  o1 147 (.binOp .mul 99 (.tmp 144) (.tmp 146) 99),
  o1 13 (.assign (.tmp 147))]) (.seq (.reg []
  [o1 148 (.move (.tmp 13)),
  o1 149 (.move (.tmp 16)),
  o1 150 (.convert 5 99 (.tmp 149)),
  o1 151 (.binOp .add 99 (.tmp 148) (.tmp 150) 99),
  o1 17 (.assign (.tmp 151))]) (.seq (.seq (.reg []
  [o1 152 (.move (.tmp 17)),
  o1 153 (.move (.tmp 13)),
  o1 154 (.binOp .lss 99 (.tmp 152) (.tmp 153) 99),
  o1 155 (.move (.tmp 154)),
  o2 156 (.move (.tmp 17)) 155 false,
  o2 157 (.move (.tmp 11)) 155 false,
  o2 158 (.binOp .gtr 99 (.tmp 156) (.tmp 157) 99) 155 false,
  o1 159 (.pick (.tmp 155) (.const (.bool true)) (.tmp 158))]) (.cond (.tmp 159) (.seq (.reg []
  [o1 160 (.move (.tmp 11)),
  o1 161 (.makeInterface 114 (.const (.int .i64 1))),
  o1 6 (.assign (.tmp 160)),
  o1 7 (.assign (.tmp 161))]) (.ret)) (.skip))) (.reg []
  [o1 162 (.move (.tmp 17)),
  o1 13 (.assign (.tmp 162))])))))))))) (.reg []
  [o1 163 (.binOp .add 3 (.tmp 101) (.const (.int .i64 1)) 3),
  o1 101 (.move (.tmp 163))]))))))) (.seq (.seq (.reg []
  [o1 164 (.move (.tmp 12)),
  o1 165 (.move (.tmp 164)),
  o2 166 (.move (.tmp 9)) 165 true,
  o2 167 (.call ⟨.value (.func 83), #[.tmp 166], #[9]⟩) 165 true,
  o2 168 (.unOp .not 4 (.tmp 167)) 165 true,
  o1 169 (.pick (.tmp 165) (.tmp 168) (.const (.bool false)))]) (.cond (.tmp 169) (.seq (.reg []
  [o1 170 (.makeInterface 114 (.const (.int .i64 2))),
  o1 6 (.assign (.const (.int .u64 0))),
  o1 7 (.assign (.tmp 170))]) (.ret)) (.skip))) (.seq (.reg []
  [o1 171 (.move (.tmp 13)),
  o1 6 (.assign (.tmp 171)),
  o1 7 (.assign (.const .nilIface))]) (.ret))))))))))))))
def ms77_0 : List Nat := [0, 2, 3, 4, 5, 6, 7, 12, 13, 14, 15, 16, 17, 18, 19, 20, 21, 22, 23, 24, 25, 26, 27, 28, 29, 30, 31, 32, 33, 34, 35, 36, 37, 38, 39, 40, 41, 42, 43, 44, 45, 46, 47, 48, 49, 50, 51, 52, 53, 54, 55, 56, 57, 58, 59, 60, 61, 62, 63, 64, 65, 66, 67, 68, 69, 70, 71, 72, 73, 74, 75, 76, 77, 78, 79, 80, 81, 82, 83, 84, 85, 86, 87, 88, 89, 90, 91, 92, 93, 94, 95, 96, 97, 98, 101, 102, 103, 104, 105, 106, 107, 108, 109, 110, 111, 112, 113, 114, 115, 116, 117, 118, 119, 120, 121, 122, 123, 124, 125, 126, 127, 128, 129, 130, 131, 132, 133, 134, 135, 136, 137, 138, 139, 140, 141, 142, 143, 144, 145, 146, 147, 148, 149, 150, 151, 152, 153, 154, 155, 156, 157, 158, 159, 160, 161, 162, 163]
theorem ls77 : Tryz.f77.body.map (strip Tryz.prog impCodU) = some lc77 := by kernel_rfl
theorem lcall77 : LC 77 172 lc77 [.tmp 6, .tmp 7] := LC.of Tryz.func77 (by kernel_rfl) ls77 (by kernel_rfl) (by kernel_rfl)
/-- internal/strconv.lower -/
def lc82 : LCode := .seq (.reg []
  [o1 2 (.assign (.const (.int .u8 0)))]) (.seq (.reg []
  [o1 3 (.move (.tmp 0)),
  o1 4 (.binOp .or 5 (.tmp 3) (.const (.int .u8 32)) 5),
  o1 2 (.assign (.tmp 4))]) (.ret))
theorem ls82 : Tryz.f82.body.map (strip Tryz.prog impCodU) = some lc82 := by kernel_rfl
theorem lcall82 : LC 82 5 lc82 [.tmp 2] := LC.of Tryz.func82 (by kernel_rfl) ls82 (by kernel_rfl) (by kernel_rfl)
end Go.Abs.S
namespace Go.Abs.S
attribute [local go_sem] lguard aopO aop aenv toAV tput aLoad aStore vcells aBin aNilI aUn aAlloc aBox aBuild aBSlice afill aConv isIntT aappZ aCap aArr aMM aMake aSlice bnd3 bnd aFldAddr aFld aIdxAddr aIdx aExt aLen aCopy aEq0 bAV aUb aapp aappQ agh acont List.getD_cons_zero List.getD_cons_succ List.set_cons_zero List.set_cons_succ List.getElem?_cons_zero List.getElem?_cons_succ List.length_cons List.length_nil List.map_cons List.map_nil ints_length if_true if_false Bool.false_eq_true true_and and_true eq_self ne_eq not_false_eq_true not_true_eq_false beq_self_eq_true Nat.zero_add Nat.add_zero Nat.mul_one Nat.zero_mul Int.toNat_natCast List.toList_toArray List.all_cons List.all_nil AV.one Value.oneCell' Bool.and_true Bool.true_and forall_const true_implies false_implies implies_true Option.map_some Option.map_none Option.isSome_some Option.isSome_none imp_self rdP_flat rdP_row splice_one ints_set ints_get List.append_nil List.cons_append List.nil_append List.getElem?_toArray List.drop_zero ints_drop ints_take List.take_of_length_le splice_all ints_one Option.some.injEq Option.getD_some List.length_replicate zArr List.map_replicate rep_ints splice_intsR List.length_set List.length_append List.flatten_replicate_singleton rep_slice rep_string rep_bool rep_iface List.replicate_zero if_pos if_neg List.mapM_cons List.mapM_nil Option.pure_def Option.bind_eq_bind Option.bind_some Bool.true_eq_false Bool.not_false Bool.not_true get_concat set_concat
open Go.Proofs
set_option linter.unusedVariables false
set_option linter.unusedSimpArgs false
set_option maxRecDepth 100000
set_option maxHeartbeats 4000000
theorem NR.tw (a b : Value) : NR (.tup [.v a, .v b]) := NR.tup (by intro c hc; simp at hc; rcases hc with rfl | rfl <;> exact NR.v _)
theorem lower_p (c : Int) : PCall Tryz.prog glob 82 [.v (.int .u8 c)] (.v (.int .u8 (ibits .or .u8 c 32))) := by
  refine PCall.of ctx.nr nrs (NR.v _) ?_
  refine lcall82 (by simp) 0 (Nat.le_refl _) ?_
  unfold lc82
  refine I1 tt ⟨?_⟩
  refine G1 F4 tt tt tt tt ⟨?_⟩
  refine R1 tt ⟨?_⟩
  exact end0 (NR.v _) rfl
/-- The number of the first k digits. -/
def pv (l : List UInt8) : Nat → Nat
  | 0 => 0
  | k + 1 => pv l k * 16 + hexV (l.getD k 0)
theorem hex_dig : ∀ c : _root_.Fin 256, hexs.contains (UInt8.ofNat c.val) = true → hexV (UInt8.ofNat c.val) < 16 ∧ c.val ≠ 95 ∧
    ((48 ≤ c.val ∧ c.val ≤ 57 ∧ hexV (UInt8.ofNat c.val) = c.val - 48) ∨ (57 < c.val ∧ 97 ≤ ibits .or .u8 (c.val : Int) 32 ∧ ibits .or .u8 (c.val : Int) 32 ≤ 102 ∧ (hexV (UInt8.ofNat c.val) : Int) = ibits .or .u8 (c.val : Int) 32 - 87)) := by decide +kernel
theorem hex_dig' (c : UInt8) (h : hexs.contains c = true) : hexV c < 16 ∧ c.toNat ≠ 95 ∧
    ((48 ≤ c.toNat ∧ c.toNat ≤ 57 ∧ hexV c = c.toNat - 48) ∨ (57 < c.toNat ∧ 97 ≤ ibits .or .u8 (c.toNat : Int) 32 ∧ ibits .or .u8 (c.toNat : Int) 32 ≤ 102 ∧ (hexV c : Int) = ibits .or .u8 (c.toNat : Int) 32 - 87)) := by
  have := hex_dig ⟨c.toNat, c.toNat_lt⟩
  simp only [UInt8.ofNat_toNat] at this
  exact this h
theorem pv_lt (l : List UInt8) (h : ∀ c ∈ l, hexs.contains c = true) : ∀ k, k ≤ l.length → pv l k < 16 ^ k
  | 0, _ => by simp [pv]
  | k + 1, hk => by
    have ih := pv_lt l h k (by omega)
    have hm : l.getD k 0 ∈ l := by
      rw [List.getD_eq_getElem?_getD, List.getElem?_eq_getElem (by omega)]
      exact List.getElem_mem _
    have := (hex_dig' _ (h _ hm)).1
    rw [pv, Nat.pow_succ]
    omega
theorem iParse_p (l : List UInt8) (h4 : l.length = 4) (h : ∀ c ∈ l, hexs.contains c = true) : PCall Tryz.prog glob 77 [.v (.string (bs l)), .v (.int .i64 16), .v (.int .i64 32)] (.tup [.v (.int .u64 (pv l 4)), .v .nilIface]) := by
  refine PCall.of ctx.nr nrs (NR.tw _ _) ?_
  refine lcall77 (by simp) 0 (Nat.le_refl _) ?_
  unfold lc77
  refine I1 tt ⟨?_⟩
  have hne : l ≠ [] := fun e => by rw [e] at h4; cases h4
  have q0 : decide (l = (⟨#[]⟩ : ByteArray).toList) = false := decide_eq_false (fun e => hne (by rw [e, ByteArray.toList_eq]))
  have em : List.map (fun b : UInt8 => AV.v (Value.int .u8 (b.toNat : Int))) l = ints .u8 (bytesOf (bs l)) := by simp [ints, bytesOf, bs]
  have hbl : (bytesOf (bs l)).length = 4 := by simp [bytesOf, bs, h4]
  have hbk : ∀ k, k < 4 → (bytesOf (bs l)).getD k 0 = ((l.getD k 0).toNat : Int) := fun k hk => by
    simp [bytesOf, bs, List.getD_eq_getElem?_getD, List.getElem?_eq_getElem (show k < l.length by omega)]
  have s1 : shlI .u64 1 32 = 4294967296 := by decide
  have s2 : IntKind.u64.wrap 32 = 32 := by decide
  have s3 : IntKind.u64.wrap (4294967296 - 1) = 4294967295 := by decide
  have s4 : IntKind.u64.wrap 4294967295 = 4294967295 := by decide
  refine G1 F4 (an q0 (an em (an hbl (an s1 (an s2 (an s3 (an s4 (an h4 tt)))))))) tt tt tt ⟨?_⟩
  refine lavc_loopM ms77_0 (fun m (k : Nat) => m + k = 4) (fun k => [(12, .v (.bool false)), (13, .v (.int .u64 (pv l k))), (101, .v (.int .i64 k))]) (fun _ => [⟨ints .u8 (bytesOf (bs l)), 0, true, 5⟩]) 4 0 (by omega) ?_ rfl ?_
  · try unfold ms77_0
    refine A1 tt ⟨?_⟩
    exact ⟨rfl, rfl⟩
  rintro m k hk
  try unfold ms77_0
  refine M1 tt ⟨?_⟩
  refine G1 F1 tt tt tt tt ⟨?_⟩
  refine cnd rfl (fun hc => ?_) (fun hc => ?_)
  · have hk4 : k < 4 := by omega
    have hb := hbk k hk4
    have hm : l.getD k 0 ∈ l := by
      rw [List.getD_eq_getElem?_getD, List.getElem?_eq_getElem (by omega)]
      exact List.getElem_mem _
    have hd := hex_dig' _ (h _ hm)
    have hp := pv_lt l h k (by omega)
    have hp1 := pv_lt l h (k + 1) (by omega)
    have hps : pv l (k + 1) = pv l k * 16 + hexV (l.getD k 0) := rfl
    have h16 : 16 ^ k ≤ 4096 := by
      have : ∀ k, k < 4 → 16 ^ k ≤ 4096 := by decide
      exact this k hk4
    have h17 : 16 ^ (k + 1) ≤ 65536 := by
      have : ∀ k, k < 4 → 16 ^ (k + 1) ≤ 65536 := by decide
      exact this k hk4
    obtain ⟨c, hc⟩ : ∃ c, l.getD k 0 = c := ⟨_, rfl⟩
    rw [hc] at hb hd hps
    obtain ⟨x, hx⟩ : ∃ x, hexV c = x := ⟨_, rfl⟩
    rw [hx] at hd hps
    obtain ⟨p, hpv⟩ : ∃ p, pv l k = p := ⟨_, rfl⟩
    obtain ⟨p1, hpv1⟩ : ∃ p, pv l (k + 1) = p := ⟨_, rfl⟩
    rw [hpv] at hps hp ⊢
    rw [hpv1] at hps hp1
    have hcb := c.toNat_lt
    obtain ⟨n, hn⟩ : ∃ n, c.toNat = n := ⟨_, rfl⟩
    rw [hn] at hb hd hcb
    obtain ⟨d1, d2, d3⟩ := hd
    have q95 : ((n : Int) == 95) = false := by rw [beq_eq_false_iff_ne, ne_eq]; omega
    have qd : decide ((x : Int) ≥ 16) = false := by rw [decide_eq_false_iff_not]; omega
    have qc : decide ((p : Int) ≥ 1152921504606846976) = false := by rw [decide_eq_false_iff_not]; omega
    have e1 : IntKind.u64.wrap ((p : Int) * 16) = ((p * 16 : Nat) : Int) := by rw [IntKind.wrap_u64]; omega
    have e2 : IntKind.u64.wrap (x : Int) = x := by rw [IntKind.wrap_u64]; omega
    have e3 : IntKind.u64.wrap (((p * 16 : Nat) : Int) + x) = p1 := by rw [IntKind.wrap_u64]; omega
    have e4 : IntKind.u8.wrap 16 = 16 := by decide
    have e5 : IntKind.u64.wrap 16 = 16 := by decide
    have ql : decide ((p1 : Int) < ((p * 16 : Nat) : Int)) = false := by rw [decide_eq_false_iff_not]; omega
    have qm : decide ((p1 : Int) > 4294967295) = false := by rw [decide_eq_false_iff_not]; omega
    have e6 := i64n ((k : Int) + 1) (k + 1) (by omega) (by omega)
    have lp := lower_p (n : Int)
    rcases d3 with ⟨f1, f2, f3⟩ | ⟨f1, f2, f3, f4⟩
    · have g1 : decide ((48 : Int) ≤ n) = true := by rw [decide_eq_true_eq]; omega
      have g2 : decide ((n : Int) ≤ 57) = true := by rw [decide_eq_true_eq]; omega
      have w1 : IntKind.u8.wrap ((n : Int) - 48) = x := by rw [IntKind.wrap_u8]; omega
      refine G1 F4 (an hb (an hbl (an q95 (an g1 (an g2 (an w1 (an qd (an qc (an e1 (an e2 (an e3 (an e4 (an e5 (an e6 (an ql (an qm tt)))))))))))))))) tt tt tt ⟨?_⟩
      refine ⟨m - 1, k + 1, by omega, by omega, ?_, (by first | rfl | trivial)⟩
      rw [hpv1]
      try unfold ms77_0
      exact A0 tt
    · obtain ⟨y, hy⟩ : ∃ y, ibits .or .u8 (n : Int) 32 = y := ⟨_, rfl⟩
      rw [hy] at f2 f3 f4 lp
      have g1 : decide ((48 : Int) ≤ n) = true := by rw [decide_eq_true_eq]; omega
      have g2 : decide ((n : Int) ≤ 57) = false := by rw [decide_eq_false_iff_not]; omega
      have g3 : decide ((97 : Int) ≤ y) = true := by rw [decide_eq_true_eq]; omega
      have g4 : decide (y ≤ 122) = true := by rw [decide_eq_true_eq]; omega
      have w1 : IntKind.u8.wrap (y - 97) = y - 97 := by rw [IntKind.wrap_u8]; omega
      have w2 : IntKind.u8.wrap (y - 97 + 10) = x := by rw [IntKind.wrap_u8]; omega
      refine G1 F4 (an hb (an hbl (an q95 (an g1 (an g2 (an g3 (an g4 (an w1 (an w2 (an qd (an qc (an e1 (an e2 (an e3 (an e4 (an e5 (an e6 (an ql (an qm tt))))))))))))))))))) (an lp.go tt) tt tt ⟨?_⟩
      refine ⟨m - 1, k + 1, by omega, by omega, ?_, (by first | rfl | trivial)⟩
      rw [hpv1]
      try unfold ms77_0
      exact A0 tt
  · have hk4 : k = 4 := by omega
    subst hk4
    refine G1 F4 tt tt tt tt ⟨?_⟩
    refine R1 tt ⟨?_⟩
    exact end0 (NR.tw _ _) rfl
theorem parse_p (l : List UInt8) (h4 : l.length = 4) (h : ∀ c ∈ l, hexs.contains c = true) : PCall Tryz.prog glob 66 [.v (.string (bs l)), .v (.int .i64 16), .v (.int .i64 32)] (.tup [.v (.int .u64 (pv l 4)), .v .nilIface]) := by
  refine PCall.of ctx.nr nrs (NR.tw _ _) ?_
  refine lcall66 (by simp) 0 (Nat.le_refl _) ?_
  unfold lc66
  refine I1 tt ⟨?_⟩
  have ip := iParse_p l h4 h
  refine G1 F4 tt (an ip.go tt) tt tt ⟨?_⟩
  refine R1 tt ⟨?_⟩
  exact end0 (NR.tw _ _) rfl
end Go.Abs.S
namespace Go.Abs.S
attribute [local go_sem] lguard aopO aop aenv toAV tput aLoad aStore vcells aBin aNilI aUn aAlloc aBox aBuild aBSlice afill aConv isIntT aappZ aCap aArr aMM aMake aSlice bnd3 bnd aFldAddr aFld aIdxAddr aIdx aExt aLen aCopy aEq0 bAV aUb aapp aappQ agh acont List.getD_cons_zero List.getD_cons_succ List.set_cons_zero List.set_cons_succ List.getElem?_cons_zero List.getElem?_cons_succ List.length_cons List.length_nil List.map_cons List.map_nil ints_length if_true if_false Bool.false_eq_true true_and and_true eq_self ne_eq not_false_eq_true not_true_eq_false beq_self_eq_true Nat.zero_add Nat.add_zero Nat.mul_one Nat.zero_mul Int.toNat_natCast List.toList_toArray List.all_cons List.all_nil AV.one Value.oneCell' Bool.and_true Bool.true_and forall_const true_implies false_implies implies_true Option.map_some Option.map_none Option.isSome_some Option.isSome_none imp_self rdP_flat rdP_row splice_one ints_set ints_get List.append_nil List.cons_append List.nil_append List.getElem?_toArray List.drop_zero ints_drop ints_take List.take_of_length_le splice_all ints_one Option.some.injEq Option.getD_some List.length_replicate zArr List.map_replicate rep_ints splice_intsR List.length_set List.length_append List.flatten_replicate_singleton rep_slice rep_string rep_bool rep_iface List.replicate_zero if_pos if_neg List.mapM_cons List.mapM_nil Option.pure_def Option.bind_eq_bind Option.bind_some Bool.true_eq_false Bool.not_false Bool.not_true get_concat set_concat
open Go.Proofs
set_option linter.unusedVariables false
set_option linter.unusedSimpArgs false
set_option maxRecDepth 100000
set_option maxHeartbeats 4000000
theorem ixB_range (b : UInt8) : ∀ l : List UInt8, Lib.indexByte l b = -1 ∨ (0 ≤ Lib.indexByte l b ∧ Lib.indexByte l b < l.length)
  | [] => .inl rfl
  | a :: l => by
    have ih := ixB_range b l
    rw [Lib.indexByte, List.length_cons]
    split
    · exact .inr ⟨by omega, by omega⟩
    · split
      · exact .inl rfl
      · refine .inr ⟨by omega, by omega⟩
theorem dwn {α : Type} (p : α → Bool) : ∀ l : List α, l.dropWhile p = [] → ∀ x ∈ l, p x = true
  | [], _, x, h => absurd h List.not_mem_nil
  | a :: l, h, x, hx => by
    rw [List.dropWhile_cons] at h
    split at h
    · rename_i ha
      rcases List.mem_cons.1 hx with rfl | hx
      · exact ha
      · exact dwn p l h x hx
    · cases h
theorem trim_all (cs : List UInt8) (l : List UInt8) (h : Lib.trimS l cs = []) : ∀ c ∈ l, cs.contains c = true := by
  unfold Lib.trimS Lib.trimLeftS Lib.trimRightS at h
  have h := dwn _ _ h
  have h0 : l.reverse.dropWhile (cs.contains ·) = [] := by
    cases hd : l.reverse.dropWhile (cs.contains ·) with
    | nil => rfl
    | cons x r =>
      exfalso
      have h1 := h x (by rw [hd]; simp)
      have h2 := List.head_dropWhile_not (p := (cs.contains ·)) (l := l.reverse) (by rw [hd]; simp)
      simp only [hd, List.head_cons] at h2
      rw [h1] at h2
      cases h2
  exact fun c hc => dwn _ _ h0 c (by simpa using hc)
theorem pv_hex4 : ∀ r : List UInt8, 4 ≤ r.length → pv (r.take 4) 4 = hex4 r
  | a :: b :: c :: d :: r, _ => by
    simp [pv, hex4]
  | [], h => by simp at h
  | [_], h => by simp at h
  | [_, _], h => by simp at h
  | [_, _, _], h => by simp at h
theorem nil_tl : (⟨#[]⟩ : ByteArray).toList = [] := by rw [ByteArray.toList_eq]
theorem eq_nil (l : List UInt8) : decide (l = (⟨#[]⟩ : ByteArray).toList) = decide (l = []) := by rw [nil_tl]
theorem escape_m (s : St) (hl : s.1.length ≤ 1000000) : MCall Tryz.prog glob 46 [] (RB s) (.v (.string (escP s).1)) (RB (escP s).2) := by
  obtain ⟨l, f⟩ := s
  refine MCall.of ctx.nr rfl rfl nrs (NR.v _) (RB.nr _) (RB.nr _) ?_
  refine lcall46 (by simp) 1 (Nat.le_refl _) ?_
  unfold lc46
  refine I1 tt ⟨?_⟩
  cases l with
  | nil =>
    have q0 : decide (([] : List UInt8) = (⟨#[]⟩ : ByteArray).toList) = true := by rw [eq_nil]; rfl
    have gm := give_m 2 ([], f)
    simp only [escP]
    refine G1 F4 (an q0 tt) tt (an gm.go tt) tt ⟨?_⟩
    refine R1 tt ⟨?_⟩
    exact end1 (NR.v _) rfl (RB.nr _) rfl
  | cons c r =>
    have q0 : decide (c :: r = (⟨#[]⟩ : ByteArray).toList) = false := by rw [eq_nil]; rfl
    have h0 : (c :: r).getD 0 0 = c := rfl
    have h1 : (c :: r).drop 1 = r := rfl
    have hlr : r.length ≤ 1000000 := by simp only [List.length_cons] at hl; omega
    have hln : (c :: r).length = r.length + 1 := rfl
    have h2 : List.take ((c :: r).length - 1) r = r := List.take_of_length_le (by simp)
    obtain ⟨l, hlc⟩ : ∃ l, c :: r = l := ⟨_, rfl⟩
    have ib : PCall Tryz.prog glob 64 [.v (.string ⟨#[34, 92, 47, 98, 102, 110, 114, 116]⟩), .v (.int .u8 (c.toNat : Int))] (.v (.int .i64 (Lib.indexByte esc8.data.toList c))) := ixb_p _ c
    simp only [escP]
    have hr := ixB_range c esc8.data.toList
    have z8 : (esc8.data.toList.length : Int) = 8 := rfl
    have z9 : (⟨#[34, 92, 47, 8, 12, 10, 13, 9]⟩ : ByteArray).size = 8 := rfl
    obtain ⟨i, hi⟩ : ∃ i, Lib.indexByte esc8.data.toList c = i := ⟨_, rfl⟩
    rw [hi] at ib hr ⊢
    rw [hlc] at q0 h0 h1 hln h2 ⊢
    by_cases hi0 : 0 ≤ i
    · rw [if_pos hi0]
      obtain ⟨k, rfl⟩ := Int.eq_ofNat_of_zero_le hi0
      have hk8 : k < 8 := by omega
      have d1 : decide ((k : Int) ≥ 0) = true := by rw [decide_eq_true_eq]; omega
      have e1 := i64n ((k : Int) + 1) (k + 1) (by omega) (by omega)
      refine G1 F4 (an q0 (an h0 (an h1 (an h2 (an d1 (an e1 (an z9 tt))))))) (an ib.go tt) tt tt ⟨?_⟩
      refine R1 tt ⟨?_⟩
      exact end1 (NR.v _) rfl (RB.nr _) rfl
    rw [if_neg hi0]
    have d1 : decide (i ≥ 0) = false := by rw [decide_eq_false_iff_not]; omega
    have gm := give_m 2 (r, f)
    by_cases hu : c.toNat ≠ 117
    · rw [if_pos (.inl hu)]
      have q1 : (((c.toNat : Int) : Int) != 117) = true := by rw [bne_iff_ne, ne_eq]; omega
      refine G1 F4 (an q0 (an h0 (an h1 (an h2 (an d1 (an q1 tt)))))) (an ib.go tt) (an gm.go tt) tt ⟨?_⟩
      refine R1 tt ⟨?_⟩
      exact end1 (NR.v _) rfl (RB.nr _) rfl
    have hu : c.toNat = 117 := Classical.byContradiction hu
    have q1 : (((c.toNat : Nat) : Int) != 117) = false := by rw [hu]; rfl
    by_cases h4 : r.length < 4
    · rw [if_pos (.inr (.inl h4))]
      have d2 : decide ((r.length : Int) < 4) = true := by rw [decide_eq_true_eq]; omega
      refine G1 F4 (an q0 (an h0 (an h1 (an h2 (an d1 (an q1 (an d2 tt))))))) (an ib.go tt) (an gm.go tt) tt ⟨?_⟩
      refine R1 tt ⟨?_⟩
      exact end1 (NR.v _) rfl (RB.nr _) rfl
    have d2 : decide ((r.length : Int) < 4) = false := by rw [decide_eq_false_iff_not]; omega
    have t4 : (r.take 4).length = 4 := by rw [List.length_take]; omega
    have tp := trim_p (r.take 4) (by omega)
    by_cases ht : Lib.trimS (r.take 4) hexs ≠ []
    · rw [if_pos (.inr (.inr ht))]
      have q2 : decide (Lib.trimS (r.take 4) hexs = (⟨#[]⟩ : ByteArray).toList) = false := by rw [eq_nil]; exact decide_eq_false ht
      have q3 : (Lib.trimS (r.take 4) hexs != (⟨#[]⟩ : ByteArray).toList) = true := by rw [nil_tl]; simpa using ht
      refine G1 F4 (an q0 (an h0 (an h1 (an h2 (an d1 (an q1 (an d2 (an q2 (an q3 tt))))))))) (an ib.go (an tp.go tt)) (an gm.go tt) tt ⟨?_⟩
      refine R1 tt ⟨?_⟩
      exact end1 (NR.v _) rfl (RB.nr _) rfl
    have ht : Lib.trimS (r.take 4) hexs = [] := Classical.byContradiction ht
    rw [if_neg (by rintro (h | h | h); exact h hu; exact h4 h; exact h ht)]
    have q2 : decide (Lib.trimS (r.take 4) hexs = (⟨#[]⟩ : ByteArray).toList) = true := by rw [eq_nil]; exact decide_eq_true ht
    have q3 : (Lib.trimS (r.take 4) hexs != (⟨#[]⟩ : ByteArray).toList) = false := by rw [nil_tl, ht]; rfl
    have pp := parse_p (r.take 4) t4 (trim_all hexs _ ht)
    have hv := pv_lt (r.take 4) (trim_all hexs _ ht) 4 (by omega)
    rw [pv_hex4 r (by omega)] at pp hv
    have gm2 := give_m 2 (r.drop 4, f)
    obtain ⟨n, hn⟩ : ∃ n, hex4 r = n := ⟨_, rfl⟩
    rw [hn] at pp hv ⊢
    by_cases h5 : 55296 ≤ n ∧ n < 57344
    · rw [if_pos h5]
      have d3 : decide ((n : Int) ≥ 55296) = true := by rw [decide_eq_true_eq]; omega
      have d4 : decide ((n : Int) < 57344) = true := by rw [decide_eq_true_eq]; omega
      refine G1 F4 (an q0 (an h0 (an h1 (an h2 (an d1 (an q1 (an d2 (an q2 (an q3 (an d3 (an d4 tt))))))))))) (an ib.go (an tp.go (an pp.go tt))) (an gm2.go tt) tt ⟨?_⟩
      refine R1 tt ⟨?_⟩
      exact end1 (NR.v _) rfl (RB.nr _) rfl
    rw [if_neg h5]
    have e3 : IntKind.i32.wrap (n : Int) = n := by rw [IntKind.wrap_i32]; omega
    by_cases h6 : 55296 ≤ n
    · have d3 : decide ((n : Int) ≥ 55296) = true := by rw [decide_eq_true_eq]; omega
      have d4 : decide ((n : Int) < 57344) = false := by rw [decide_eq_false_iff_not]; omega
      refine G1 F4 (an q0 (an h0 (an h1 (an h2 (an d1 (an q1 (an d2 (an q2 (an q3 (an d3 (an d4 (an e3 tt)))))))))))) (an ib.go (an tp.go (an pp.go tt))) tt tt ⟨?_⟩
      refine R1 tt ⟨?_⟩
      exact end1 (NR.v _) rfl (RB.nr _) rfl
    · have d3 : decide ((n : Int) ≥ 55296) = false := by rw [decide_eq_false_iff_not]; omega
      refine G1 F4 (an q0 (an h0 (an h1 (an h2 (an d1 (an q1 (an d2 (an q2 (an q3 (an d3 (an e3 tt))))))))))) (an ib.go (an tp.go (an pp.go tt))) tt tt ⟨?_⟩
      refine R1 tt ⟨?_⟩
      exact end1 (NR.v _) rfl (RB.nr _) rfl
end Go.Abs.S
namespace Go.Abs.S
attribute [local go_sem] lguard aopO aop aenv toAV tput aLoad aStore vcells aBin aNilI aUn aAlloc aBox aBuild aBSlice afill aConv isIntT aappZ aCap aArr aMM aMake aSlice bnd3 bnd aFldAddr aFld aIdxAddr aIdx aExt aLen aCopy aEq0 bAV aUb aapp aappQ agh acont List.getD_cons_zero List.getD_cons_succ List.set_cons_zero List.set_cons_succ List.getElem?_cons_zero List.getElem?_cons_succ List.length_cons List.length_nil List.map_cons List.map_nil ints_length if_true if_false Bool.false_eq_true true_and and_true eq_self ne_eq not_false_eq_true not_true_eq_false beq_self_eq_true Nat.zero_add Nat.add_zero Nat.mul_one Nat.zero_mul Int.toNat_natCast List.toList_toArray List.all_cons List.all_nil AV.one Value.oneCell' Bool.and_true Bool.true_and forall_const true_implies false_implies implies_true Option.map_some Option.map_none Option.isSome_some Option.isSome_none imp_self rdP_flat rdP_row splice_one ints_set ints_get List.append_nil List.cons_append List.nil_append List.getElem?_toArray List.drop_zero ints_drop ints_take List.take_of_length_le splice_all ints_one Option.some.injEq Option.getD_some List.length_replicate zArr List.map_replicate rep_ints splice_intsR List.length_set List.length_append List.flatten_replicate_singleton rep_slice rep_string rep_bool rep_iface List.replicate_zero if_pos if_neg List.mapM_cons List.mapM_nil Option.pure_def Option.bind_eq_bind Option.bind_some Bool.true_eq_false Bool.not_false Bool.not_true get_concat set_concat
open Go.Proofs
set_option linter.unusedVariables false
set_option linter.unusedSimpArgs false
set_option maxRecDepth 100000
set_option maxHeartbeats 8000000
theorem decode_fit (s : ByteArray) (h : 0 < s.size) : 1 ≤ (Utf8.decode s 0).2 ∧ (Utf8.decode s 0).2 ≤ s.size := by
  unfold Utf8.decode
  simp only [Bool.and_eq_true, decide_eq_true_eq]
  split
  · exact ⟨Nat.le_refl _, h⟩
  split
  · rename_i h1
    split <;> simp only <;> omega
  split
  · split <;> simp only <;> omega
  split
  · split <;> simp only <;> omega
  · exact ⟨Nat.le_refl _, h⟩
theorem dec_fit (l : List UInt8) (h : l ≠ []) : 1 ≤ (Lib.decodeGo (bs l)).2 ∧ (Lib.decodeGo (bs l)).2 ≤ l.length := by
  have hp : 0 < l.length := List.length_pos_iff.2 h
  have hz := bs_size l
  unfold Lib.decodeGo
  rw [if_neg (by omega)]
  have := decode_fit (bs l) (by omega)
  omega
theorem enc_size (r : Int) : (Utf8.encode r).size ≤ 4 := by
  unfold Utf8.encode
  simp only
  split
  · split
    · exact Nat.le_of_ble_eq_true rfl
    split
    · exact Nat.le_of_ble_eq_true rfl
    split
    · exact Nat.le_of_ble_eq_true rfl
    · exact Nat.le_of_ble_eq_true rfl
  · exact Nat.le_of_ble_eq_true rfl
theorem esc_len (s : St) : (escP s).1.size ≤ 4 ∧ (escP s).2.1.length ≤ s.1.length := by
  obtain ⟨l, f⟩ := s
  have hg : ∀ (e : Int) (r : List UInt8) (n : Nat), r.length ≤ n → (giveP e (r, f)).1.length ≤ n := fun e r n h => by
    unfold giveP
    split
    · exact Nat.zero_le _
    · exact h
  cases l with
  | nil => exact ⟨by show (bs []).size ≤ 4; decide, hg _ _ _ (Nat.le_refl _)⟩
  | cons c r =>
    simp only [escP, List.length_cons]
    split
    · refine ⟨?_, by simp⟩
      rw [ByteArray.size_extract]
      have : esc8to.size = 8 := rfl
      rw [this]
      omega
    split
    · exact ⟨by show (bs []).size ≤ 4; decide, hg _ _ _ (by omega)⟩
    split
    · exact ⟨by show (bs []).size ≤ 4; decide, hg _ _ _ (by rw [List.length_drop]; omega)⟩
    · refine ⟨?_, ?_⟩
      · have := enc_size ((hex4 r : Nat) : Int)
        simp only
        exact this
      · show (r.drop 4).length ≤ r.length + 1
        rw [List.length_drop]
        omega
theorem take_y (p l : List UInt8) (f : Int) (h : p.isPrefixOf l = true) : MCall Tryz.prog glob 32 [.v (.string (bs p))] (RB (l, f)) (.v (.bool true)) (RB (l.drop p.length, f)) := by
  have := take_m p (l, f)
  unfold takeP at this
  simp only [h, if_true] at this
  exact this
theorem take_n (p l : List UInt8) (f : Int) (h : p.isPrefixOf l = false) : MCall Tryz.prog glob 32 [.v (.string (bs p))] (RB (l, f)) (.v (.bool false)) (RB (l, f)) := by
  have := take_m p (l, f)
  unfold takeP at this
  simp only [h, Bool.false_eq_true, if_false] at this
  exact this
theorem bytes_len (l : List UInt8) : l.length = (bytesOf (bs l)).length := by simp [bytesOf, bs]
theorem bytes_app (l m : List UInt8) : bytesOf (bs l) ++ bytesOf (bs m) = bytesOf (bs (l ++ m)) := by simp [bytesOf, bs]
theorem bytes_u8 (s : ByteArray) : ∀ x ∈ bytesOf s, 0 ≤ x ∧ x ≤ 255 := by
  intro x hx
  simp only [bytesOf, List.mem_map] at hx
  obtain ⟨b, _, rfl⟩ := hx
  have := b.toNat_lt
  omega
theorem text_m (s : St) (hs : s.1.length ≤ 1000000) : MCall Tryz.prog glob 33 [] (RB s) (.v (.string (bs (textR s).1))) (RB (textR s).2) := by
  refine MCall.of ctx.nr rfl rfl nrs (NR.v _) (RB.nr _) (RB.nr _) ?_
  refine lcall33 (by simp) 1 (Nat.le_refl _) ?_
  unfold lc33
  refine I1 tt ⟨?_⟩
  refine lavc_seq (lavc_reg ?_)
  refine G1 F6 tt tt tt tt ⟨?_⟩
  refine lavc_seq (lavc_reg ?_)
  refine G1 F6 tt tt tt tt ⟨?_⟩
  refine lavc_bld 1 5 rfl rfl ?_
  obtain ⟨V, hV⟩ : ∃ V, textR s = V := ⟨_, rfl⟩
  have hV' : textP (s.1.length + 2) [] s = V := hV
  rw [hV]
  refine G1 F1 tt tt tt tt ⟨?_⟩
  refine lavc_loopM ms33_0 (fun m (x : Nat × Nat × List UInt8 × St) => m = x.1 ∧ (x.2.2.2.2 = 0 → x.2.2.2.1.length + 2 ≤ x.1) ∧ 1 ≤ x.1 ∧ x.2.2.1.length + 4 * x.2.2.2.1.length ≤ 4000000 ∧ textP x.1 x.2.2.1 x.2.2.2 = V) (fun _ => [])
    (fun x => [RB x.2.2.2, ⟨[.bad 1 0, .bsl 2 x.2.1 x.2.2.1.length], 0, true, 51⟩, ⟨ints .u8 (bytesOf (bs x.2.2.1)), x.2.1, true, 5⟩]) (s.1.length + 2) (s.1.length + 2, 0, [], s) ⟨rfl, fun _ => Nat.le_refl _, by omega, by simp; omega, hV'⟩ ?_ rfl ?_
  · refine ALe.mk ?_
    simp only [ms33_0, putAll, blank, List.foldl_cons, List.foldl_nil, List.set_cons_succ, List.set_cons_zero, List.cons_append, List.nil_append, ALe0, true_or, or_true, and_true, true_and, eq_self, reduceCtorEq, false_or]
    try rfl
  rintro m ⟨k, v, acc, l, f⟩ ⟨rfl, h0, h1, hN, hi⟩
  simp only at h0 h1 hN hi ⊢
  obtain ⟨k, rfl⟩ : ∃ k', m = k' + 1 := ⟨m - 1, by omega⟩
  try unfold ms33_0
  refine M1 tt ⟨?_⟩
  rw [textP] at hi
  by_cases hf : f ≠ 0
  · rw [if_pos hf] at hi
    subst hi
    have q0 : ((f : Int) == 0) = false := by rw [beq_eq_false_iff_ne, ne_eq]; omega
    refine G1 F4 (an q0 tt) tt tt tt ⟨?_⟩
    refine R1 tt ⟨?_⟩
    exact end1 (NR.v _) rfl (RB.nr _) rfl
  have hf : f = 0 := Classical.byContradiction hf
  subst hf
  have h0 := h0 rfl
  rw [if_neg (by simp)] at hi
  have ip := idxf_p l
  have hr := Lib.idxFunc_range pq true (bs l)
  rw [bs_size] at hr
  simp only at hi
  obtain ⟨i, hix⟩ : ∃ i, Lib.idxFunc pq true (bs l) = i := ⟨_, rfl⟩
  rw [hix] at ip hr hi
  have gm := give_m 2 (l, 0)
  by_cases hi0 : i < 0
  · rw [if_pos hi0] at hi
    subst hi
    have d1 : decide (i < 0) = true := by rw [decide_eq_true_eq]; omega
    refine G1 F4 (an d1 tt) (an ip.go tt) (an gm.go tt) tt ⟨?_⟩
    refine R1 tt ⟨?_⟩
    exact end1 (NR.v _) rfl (RB.nr _) rfl
  rw [if_neg hi0] at hi
  have d1 : decide (i < 0) = false := by rw [decide_eq_false_iff_not]; omega
  obtain ⟨n, rfl⟩ := Int.eq_ofNat_of_zero_le (show 0 ≤ i by omega)
  rw [Int.toNat_natCast] at hi
  have hnl : n < l.length := by omega
  have hl2 : l.drop n ≠ [] := fun e => by
    have := congrArg List.length e
    rw [List.length_drop] at this
    simp at this
    omega
  have dp := dec_p (l.drop n)
  have df := dec_fit (l.drop n) hl2
  have ltn : (l.take n).length = n := by rw [List.length_take]; omega
  have ldn : (l.drop n).length = l.length - n := List.length_drop
  have ba := bytes_app acc
  have bl1 := bytes_len acc
  have ba2 := bytes_app (acc ++ l.take n)
  have bl2 := bytes_len (acc ++ l.take n)
  have al : (acc ++ l.take n).length = acc.length + n := by rw [List.length_append, ltn]
  obtain ⟨l2, hl2'⟩ : ∃ l2, l.drop n = l2 := ⟨_, rfl⟩
  obtain ⟨t, ht⟩ : ∃ t, l.take n = t := ⟨_, rfl⟩
  rw [hl2'] at dp df ldn hi hl2
  rw [ht] at ltn ba2 bl2 al hi
  obtain ⟨⟨c, w⟩, hd⟩ : ∃ d, Lib.decodeGo (bs l2) = d := ⟨_, rfl⟩
  rw [hd] at dp df hi
  simp only at dp df hi
  have hw1 : (bytesOf (bs acc)).length + (bs t).size ≤ 140737488355328 := by rw [← bl1, bs_size]; omega
  by_cases hc1 : c = 65533 ∧ 1 < w
  · rw [if_pos hc1] at hi
    have q1 : (((c : Nat) : Int) == 65533) = true := by rw [hc1.1]; rfl
    have q2 : decide ((w : Int) > 1) = true := by rw [decide_eq_true_eq]; omega
    have ltw : (l2.take w).length = w := by rw [List.length_take]; omega
    have ldw : (l2.drop w).length = l2.length - w := List.length_drop
    have al3 : (acc ++ t ++ l2.take w).length = acc.length + n + w := by rw [List.length_append, al, ltw]
    have hw2 : (bytesOf (bs (acc ++ t))).length + (bs (l2.take w)).size ≤ 140737488355328 := by rw [← bl2, bs_size]; omega
    repeat (first
      | (with_reducible refine lops_step fun K hK => ?_; simp (disch := first | exact dch | fail) only [go_sem, Nat.reduceAdd, Nat.reduceSub, reduceIte, Nat.reduceEqDiff, Int.reduceToNat, Int.reduceBEq, Int.reduceBNe, d1, ltn, ltw, ldn, q1, q2, hl2', ht, ba, ba2]; (try (first | (refine And.intro (fun _ => ?_) (fun h => absurd h (by decide))) | (refine And.intro (fun h => absurd h (by decide)) (fun _ => ?_)))); (repeat (with_reducible refine And.intro acl ?_)); (first | (refine hK _ _ ?_) | (refine ⟨_, rfl, hK _ _ ?_⟩) | (refine Or.inl (hK _ _ ?_)) | (refine ⟨_, _, Or.inl (ip.go _), (by first | exact ⟨[], (List.append_nil _).symm⟩ | exact ⟨_, rfl⟩), hK _ _ ?_⟩) | (refine ⟨_, _, Or.inl (ip.go _), hK _ _ ?_⟩) | (refine ⟨_, _, Or.inl (ip.go _).weakQ, hK _ _ ?_⟩) | (refine ⟨_, _, Or.inl (dp.go _), (by first | exact ⟨[], (List.append_nil _).symm⟩ | exact ⟨_, rfl⟩), hK _ _ ?_⟩) | (refine ⟨_, _, Or.inl (dp.go _), hK _ _ ?_⟩) | (refine ⟨_, _, Or.inl (dp.go _).weakQ, hK _ _ ?_⟩) | (refine ⟨_, _, Or.inl ((WriteString_a (b := 1) (b1 := 2) (acc := bytesOf (bs acc)) rfl rfl bl1 hw1)), (by first | exact ⟨[], (List.append_nil _).symm⟩ | exact ⟨_, rfl⟩), hK _ _ ?_⟩) | (refine ⟨_, _, Or.inl ((WriteString_a (b := 1) (b1 := 2) (acc := bytesOf (bs acc)) rfl rfl bl1 hw1)), hK _ _ ?_⟩) | (refine ⟨_, _, Or.inl ((WriteString_a (b := 1) (b1 := 2) (acc := bytesOf (bs acc)) rfl rfl bl1 hw1)).weakQ, hK _ _ ?_⟩) | (refine ⟨_, _, Or.inl ((WriteString_a (b := 1) (b1 := 2) (acc := bytesOf (bs (acc ++ t))) rfl rfl (by rw [← bl2, al]) hw2)), (by first | exact ⟨[], (List.append_nil _).symm⟩ | exact ⟨_, rfl⟩), hK _ _ ?_⟩) | (refine ⟨_, _, Or.inl ((WriteString_a (b := 1) (b1 := 2) (acc := bytesOf (bs (acc ++ t))) rfl rfl (by rw [← bl2, al]) hw2)), hK _ _ ?_⟩) | (refine ⟨_, _, Or.inl ((WriteString_a (b := 1) (b1 := 2) (acc := bytesOf (bs (acc ++ t))) rfl rfl (by rw [← bl2, al]) hw2)).weakQ, hK _ _ ?_⟩)); clear hK K)
      | (with_reducible refine lops_nil ?_)
      | (with_reducible first | refine lavc_reg ?_ | refine lavc_seq ?_ | refine lavc_block ?_ | refine lavc_skip ?_ | refine lavc_exit ?_ | refine lavc_ret ?_ | refine lavcR_round ?_)
      | (refine lavc_cond rfl (fun _ => ?_) (fun hc => absurd hc (by decide)))
      | (refine lavc_cond rfl (fun hc => absurd hc (by decide)) (fun _ => ?_))
      | (simp only [↓reduceIte, Nat.reduceEqDiff, reduceCtorEq]))
    refine ⟨k, (k, v + 1 + 1, acc ++ t ++ l2.take w, l2.drop w, 0), by omega, ⟨rfl, fun _ => by show (l2.drop w).length + 2 ≤ k; omega, by show 1 ≤ k; omega, by show (acc ++ t ++ l2.take w).length + 4 * (l2.drop w).length ≤ 4000000; omega, hi⟩, ?_, ?_⟩
    · try unfold ms33_0
      exact A0 tt
    · simp only [al3]
  rw [if_neg hc1] at hi
  have hq : ∃ a : Bool, (((c : Nat) : Int) == 65533) = a := ⟨_, rfl⟩
  obtain ⟨a, hqa⟩ := hq
  have hq2 : a = true → decide ((w : Int) > 1) = false := fun ha => by
    subst ha
    rw [decide_eq_false_iff_not]
    intro h
    rw [beq_iff_eq] at hqa
    exact hc1 ⟨by omega, by omega⟩
  by_cases h34 : ([34] : List UInt8).isPrefixOf l2 = true
  · rw [if_pos h34] at hi
    subst hi
    have t34 : MCall Tryz.prog glob 32 [.v (.string ⟨#[34]⟩)] (RB (l2, 0)) (.v (.bool true)) (RB (l2.drop 1, 0)) := take_y [34] l2 0 h34
    have sb := str_bytes (bs (acc ++ t))
    have hu8 := bytes_u8 (bs (acc ++ t))
    have hw3 : (bytesOf (bs (acc ++ t))).length ≤ 9223372036854775807 := by rw [← bl2]; omega
    cases a
    · repeat (first
        | (with_reducible refine lops_step fun K hK => ?_; simp (disch := first | exact dch | fail) only [go_sem, Nat.reduceAdd, Nat.reduceSub, reduceIte, Nat.reduceEqDiff, Int.reduceToNat, Int.reduceBEq, Int.reduceBNe, d1, ltn, ldn, hqa, hl2', ht, ba, al, sb]; (try (first | (refine And.intro (fun _ => ?_) (fun h => absurd h (by decide))) | (refine And.intro (fun h => absurd h (by decide)) (fun _ => ?_)))); (repeat (with_reducible refine And.intro acl ?_)); (first | (refine hK _ _ ?_) | (refine ⟨_, rfl, hK _ _ ?_⟩) | (refine Or.inl (hK _ _ ?_)) | (refine ⟨_, _, Or.inl (ip.go _), (by first | exact ⟨[], (List.append_nil _).symm⟩ | exact ⟨_, rfl⟩), hK _ _ ?_⟩) | (refine ⟨_, _, Or.inl (ip.go _), hK _ _ ?_⟩) | (refine ⟨_, _, Or.inl (ip.go _).weakQ, hK _ _ ?_⟩) | (refine ⟨_, _, Or.inl (dp.go _), (by first | exact ⟨[], (List.append_nil _).symm⟩ | exact ⟨_, rfl⟩), hK _ _ ?_⟩) | (refine ⟨_, _, Or.inl (dp.go _), hK _ _ ?_⟩) | (refine ⟨_, _, Or.inl (dp.go _).weakQ, hK _ _ ?_⟩) | (refine ⟨_, _, Or.inl (t34.go _ _ rfl), (by first | exact ⟨[], (List.append_nil _).symm⟩ | exact ⟨_, rfl⟩), hK _ _ ?_⟩) | (refine ⟨_, _, Or.inl (t34.go _ _ rfl), hK _ _ ?_⟩) | (refine ⟨_, _, Or.inl (t34.go _ _ rfl).weakQ, hK _ _ ?_⟩) | (refine ⟨_, _, Or.inl ((WriteString_a (b := 1) (b1 := 2) (acc := bytesOf (bs acc)) rfl rfl bl1 hw1)), (by first | exact ⟨[], (List.append_nil _).symm⟩ | exact ⟨_, rfl⟩), hK _ _ ?_⟩) | (refine ⟨_, _, Or.inl ((WriteString_a (b := 1) (b1 := 2) (acc := bytesOf (bs acc)) rfl rfl bl1 hw1)), hK _ _ ?_⟩) | (refine ⟨_, _, Or.inl ((WriteString_a (b := 1) (b1 := 2) (acc := bytesOf (bs acc)) rfl rfl bl1 hw1)).weakQ, hK _ _ ?_⟩) | (refine ⟨_, _, Or.inl ((String_a (b := 1) (b1 := 2) (acc := bytesOf (bs (acc ++ t))) rfl rfl (by rw [← bl2, al]) hw3 hu8)), (by first | exact ⟨[], (List.append_nil _).symm⟩ | exact ⟨_, rfl⟩), hK _ _ ?_⟩) | (refine ⟨_, _, Or.inl ((String_a (b := 1) (b1 := 2) (acc := bytesOf (bs (acc ++ t))) rfl rfl (by rw [← bl2, al]) hw3 hu8)), hK _ _ ?_⟩) | (refine ⟨_, _, Or.inl ((String_a (b := 1) (b1 := 2) (acc := bytesOf (bs (acc ++ t))) rfl rfl (by rw [← bl2, al]) hw3 hu8)).weakQ, hK _ _ ?_⟩)); clear hK K)
        | (with_reducible refine lops_nil ?_)
        | (with_reducible first | refine lavc_reg ?_ | refine lavc_seq ?_ | refine lavc_block ?_ | refine lavc_skip ?_ | refine lavc_exit ?_ | refine lavc_ret ?_ | refine lavcR_round ?_)
        | (refine lavc_cond rfl (fun _ => ?_) (fun hc => absurd hc (by decide)))
        | (refine lavc_cond rfl (fun hc => absurd hc (by decide)) (fun _ => ?_))
        | (simp only [↓reduceIte, Nat.reduceEqDiff, reduceCtorEq]))
      refine R1 tt ⟨?_⟩
      exact end1 (NR.v _) rfl (RB.nr _) rfl
    · have q2 := hq2 rfl
      repeat (first
        | (with_reducible refine lops_step fun K hK => ?_; simp (disch := first | exact dch | fail) only [go_sem, Nat.reduceAdd, Nat.reduceSub, reduceIte, Nat.reduceEqDiff, Int.reduceToNat, Int.reduceBEq, Int.reduceBNe, d1, ltn, ldn, hqa, q2, hl2', ht, ba, al, sb]; (try (first | (refine And.intro (fun _ => ?_) (fun h => absurd h (by decide))) | (refine And.intro (fun h => absurd h (by decide)) (fun _ => ?_)))); (repeat (with_reducible refine And.intro acl ?_)); (first | (refine hK _ _ ?_) | (refine ⟨_, rfl, hK _ _ ?_⟩) | (refine Or.inl (hK _ _ ?_)) | (refine ⟨_, _, Or.inl (ip.go _), (by first | exact ⟨[], (List.append_nil _).symm⟩ | exact ⟨_, rfl⟩), hK _ _ ?_⟩) | (refine ⟨_, _, Or.inl (ip.go _), hK _ _ ?_⟩) | (refine ⟨_, _, Or.inl (ip.go _).weakQ, hK _ _ ?_⟩) | (refine ⟨_, _, Or.inl (dp.go _), (by first | exact ⟨[], (List.append_nil _).symm⟩ | exact ⟨_, rfl⟩), hK _ _ ?_⟩) | (refine ⟨_, _, Or.inl (dp.go _), hK _ _ ?_⟩) | (refine ⟨_, _, Or.inl (dp.go _).weakQ, hK _ _ ?_⟩) | (refine ⟨_, _, Or.inl (t34.go _ _ rfl), (by first | exact ⟨[], (List.append_nil _).symm⟩ | exact ⟨_, rfl⟩), hK _ _ ?_⟩) | (refine ⟨_, _, Or.inl (t34.go _ _ rfl), hK _ _ ?_⟩) | (refine ⟨_, _, Or.inl (t34.go _ _ rfl).weakQ, hK _ _ ?_⟩) | (refine ⟨_, _, Or.inl ((WriteString_a (b := 1) (b1 := 2) (acc := bytesOf (bs acc)) rfl rfl bl1 hw1)), (by first | exact ⟨[], (List.append_nil _).symm⟩ | exact ⟨_, rfl⟩), hK _ _ ?_⟩) | (refine ⟨_, _, Or.inl ((WriteString_a (b := 1) (b1 := 2) (acc := bytesOf (bs acc)) rfl rfl bl1 hw1)), hK _ _ ?_⟩) | (refine ⟨_, _, Or.inl ((WriteString_a (b := 1) (b1 := 2) (acc := bytesOf (bs acc)) rfl rfl bl1 hw1)).weakQ, hK _ _ ?_⟩) | (refine ⟨_, _, Or.inl ((String_a (b := 1) (b1 := 2) (acc := bytesOf (bs (acc ++ t))) rfl rfl (by rw [← bl2, al]) hw3 hu8)), (by first | exact ⟨[], (List.append_nil _).symm⟩ | exact ⟨_, rfl⟩), hK _ _ ?_⟩) | (refine ⟨_, _, Or.inl ((String_a (b := 1) (b1 := 2) (acc := bytesOf (bs (acc ++ t))) rfl rfl (by rw [← bl2, al]) hw3 hu8)), hK _ _ ?_⟩) | (refine ⟨_, _, Or.inl ((String_a (b := 1) (b1 := 2) (acc := bytesOf (bs (acc ++ t))) rfl rfl (by rw [← bl2, al]) hw3 hu8)).weakQ, hK _ _ ?_⟩)); clear hK K)
        | (with_reducible refine lops_nil ?_)
        | (with_reducible first | refine lavc_reg ?_ | refine lavc_seq ?_ | refine lavc_block ?_ | refine lavc_skip ?_ | refine lavc_exit ?_ | refine lavc_ret ?_ | refine lavcR_round ?_)
        | (refine lavc_cond rfl (fun _ => ?_) (fun hc => absurd hc (by decide)))
        | (refine lavc_cond rfl (fun hc => absurd hc (by decide)) (fun _ => ?_))
        | (simp only [↓reduceIte, Nat.reduceEqDiff, reduceCtorEq]))
      refine R1 tt ⟨?_⟩
      exact end1 (NR.v _) rfl (RB.nr _) rfl
  have h34 : ([34] : List UInt8).isPrefixOf l2 = false := Bool.eq_false_iff.2 h34
  rw [h34, if_neg (by decide)] at hi
  have t34 : MCall Tryz.prog glob 32 [.v (.string ⟨#[34]⟩)] (RB (l2, 0)) (.v (.bool false)) (RB (l2, 0)) := take_n [34] l2 0 h34
  by_cases h92 : ([92] : List UInt8).isPrefixOf l2 = true
  · rw [if_pos h92] at hi
    have t92 : MCall Tryz.prog glob 32 [.v (.string ⟨#[92]⟩)] (RB (l2, 0)) (.v (.bool true)) (RB (l2.drop 1, 0)) := take_y [92] l2 0 h92
    have ld1 : (l2.drop 1).length = l2.length - 1 := List.length_drop
    have em := escape_m (l2.drop 1, 0) (by show (l2.drop 1).length ≤ 1000000; omega)
    have ez := esc_len (l2.drop 1, 0)
    obtain ⟨⟨E, l3, f3⟩, hE⟩ : ∃ y, escP (l2.drop 1, 0) = y := ⟨_, rfl⟩
    rw [hE] at em ez hi
    simp only at em ez hi
    have ez2 : l3.length ≤ l2.length - 1 := by have := ez.2; rw [ld1] at this; exact this
    have blE : (bl E).length = E.size := Array.length_toList
    have hw2 : (bytesOf (bs (acc ++ t))).length + E.size ≤ 140737488355328 := by rw [← bl2]; omega
    have ba3 : bytesOf (bs (acc ++ t)) ++ bytesOf E = bytesOf (bs (acc ++ t ++ bl E)) := ba2 (bl E)
    have al3 : (acc ++ t ++ bl E).length = acc.length + n + E.size := by rw [List.length_append, al, blE]
    cases a
    · repeat (first
        | (with_reducible refine lops_step fun K hK => ?_; simp (disch := first | exact dch | fail) only [go_sem, Nat.reduceAdd, Nat.reduceSub, reduceIte, Nat.reduceEqDiff, Int.reduceToNat, Int.reduceBEq, Int.reduceBNe, d1, ltn, ldn, hqa, hl2', ht, ba, ba3]; (try (first | (refine And.intro (fun _ => ?_) (fun h => absurd h (by decide))) | (refine And.intro (fun h => absurd h (by decide)) (fun _ => ?_)))); (repeat (with_reducible refine And.intro acl ?_)); (first | (refine hK _ _ ?_) | (refine ⟨_, rfl, hK _ _ ?_⟩) | (refine Or.inl (hK _ _ ?_)) | (refine ⟨_, _, Or.inl (ip.go _), (by first | exact ⟨[], (List.append_nil _).symm⟩ | exact ⟨_, rfl⟩), hK _ _ ?_⟩) | (refine ⟨_, _, Or.inl (ip.go _), hK _ _ ?_⟩) | (refine ⟨_, _, Or.inl (ip.go _).weakQ, hK _ _ ?_⟩) | (refine ⟨_, _, Or.inl (dp.go _), (by first | exact ⟨[], (List.append_nil _).symm⟩ | exact ⟨_, rfl⟩), hK _ _ ?_⟩) | (refine ⟨_, _, Or.inl (dp.go _), hK _ _ ?_⟩) | (refine ⟨_, _, Or.inl (dp.go _).weakQ, hK _ _ ?_⟩) | (refine ⟨_, _, Or.inl (t34.go _ _ rfl), (by first | exact ⟨[], (List.append_nil _).symm⟩ | exact ⟨_, rfl⟩), hK _ _ ?_⟩) | (refine ⟨_, _, Or.inl (t34.go _ _ rfl), hK _ _ ?_⟩) | (refine ⟨_, _, Or.inl (t34.go _ _ rfl).weakQ, hK _ _ ?_⟩) | (refine ⟨_, _, Or.inl (t92.go _ _ rfl), (by first | exact ⟨[], (List.append_nil _).symm⟩ | exact ⟨_, rfl⟩), hK _ _ ?_⟩) | (refine ⟨_, _, Or.inl (t92.go _ _ rfl), hK _ _ ?_⟩) | (refine ⟨_, _, Or.inl (t92.go _ _ rfl).weakQ, hK _ _ ?_⟩) | (refine ⟨_, _, Or.inl (em.go _ _ rfl), (by first | exact ⟨[], (List.append_nil _).symm⟩ | exact ⟨_, rfl⟩), hK _ _ ?_⟩) | (refine ⟨_, _, Or.inl (em.go _ _ rfl), hK _ _ ?_⟩) | (refine ⟨_, _, Or.inl (em.go _ _ rfl).weakQ, hK _ _ ?_⟩) | (refine ⟨_, _, Or.inl ((WriteString_a (b := 1) (b1 := 2) (acc := bytesOf (bs acc)) rfl rfl bl1 hw1)), (by first | exact ⟨[], (List.append_nil _).symm⟩ | exact ⟨_, rfl⟩), hK _ _ ?_⟩) | (refine ⟨_, _, Or.inl ((WriteString_a (b := 1) (b1 := 2) (acc := bytesOf (bs acc)) rfl rfl bl1 hw1)), hK _ _ ?_⟩) | (refine ⟨_, _, Or.inl ((WriteString_a (b := 1) (b1 := 2) (acc := bytesOf (bs acc)) rfl rfl bl1 hw1)).weakQ, hK _ _ ?_⟩) | (refine ⟨_, _, Or.inl ((WriteString_a (b := 1) (b1 := 2) (acc := bytesOf (bs (acc ++ t))) rfl rfl (by rw [← bl2, al]) hw2)), (by first | exact ⟨[], (List.append_nil _).symm⟩ | exact ⟨_, rfl⟩), hK _ _ ?_⟩) | (refine ⟨_, _, Or.inl ((WriteString_a (b := 1) (b1 := 2) (acc := bytesOf (bs (acc ++ t))) rfl rfl (by rw [← bl2, al]) hw2)), hK _ _ ?_⟩) | (refine ⟨_, _, Or.inl ((WriteString_a (b := 1) (b1 := 2) (acc := bytesOf (bs (acc ++ t))) rfl rfl (by rw [← bl2, al]) hw2)).weakQ, hK _ _ ?_⟩)); clear hK K)
        | (with_reducible refine lops_nil ?_)
        | (with_reducible first | refine lavc_reg ?_ | refine lavc_seq ?_ | refine lavc_block ?_ | refine lavc_skip ?_ | refine lavc_exit ?_ | refine lavc_ret ?_ | refine lavcR_round ?_)
        | (refine lavc_cond rfl (fun _ => ?_) (fun hc => absurd hc (by decide)))
        | (refine lavc_cond rfl (fun hc => absurd hc (by decide)) (fun _ => ?_))
        | (simp only [↓reduceIte, Nat.reduceEqDiff, reduceCtorEq]))
      refine ⟨k, (k, v + 1 + 1, acc ++ t ++ bl E, l3, f3), by omega, ⟨rfl, fun _ => by show l3.length + 2 ≤ k; omega, by show 1 ≤ k; omega, by show (acc ++ t ++ bl E).length + 4 * l3.length ≤ 4000000; omega, hi⟩, ?_, ?_⟩
      · try unfold ms33_0
        exact A0 tt
      · simp only [al3, ← ba3]
        rfl
    · have q2 := hq2 rfl
      repeat (first
        | (with_reducible refine lops_step fun K hK => ?_; simp (disch := first | exact dch | fail) only [go_sem, Nat.reduceAdd, Nat.reduceSub, reduceIte, Nat.reduceEqDiff, Int.reduceToNat, Int.reduceBEq, Int.reduceBNe, d1, ltn, ldn, hqa, q2, hl2', ht, ba, ba3]; (try (first | (refine And.intro (fun _ => ?_) (fun h => absurd h (by decide))) | (refine And.intro (fun h => absurd h (by decide)) (fun _ => ?_)))); (repeat (with_reducible refine And.intro acl ?_)); (first | (refine hK _ _ ?_) | (refine ⟨_, rfl, hK _ _ ?_⟩) | (refine Or.inl (hK _ _ ?_)) | (refine ⟨_, _, Or.inl (ip.go _), (by first | exact ⟨[], (List.append_nil _).symm⟩ | exact ⟨_, rfl⟩), hK _ _ ?_⟩) | (refine ⟨_, _, Or.inl (ip.go _), hK _ _ ?_⟩) | (refine ⟨_, _, Or.inl (ip.go _).weakQ, hK _ _ ?_⟩) | (refine ⟨_, _, Or.inl (dp.go _), (by first | exact ⟨[], (List.append_nil _).symm⟩ | exact ⟨_, rfl⟩), hK _ _ ?_⟩) | (refine ⟨_, _, Or.inl (dp.go _), hK _ _ ?_⟩) | (refine ⟨_, _, Or.inl (dp.go _).weakQ, hK _ _ ?_⟩) | (refine ⟨_, _, Or.inl (t34.go _ _ rfl), (by first | exact ⟨[], (List.append_nil _).symm⟩ | exact ⟨_, rfl⟩), hK _ _ ?_⟩) | (refine ⟨_, _, Or.inl (t34.go _ _ rfl), hK _ _ ?_⟩) | (refine ⟨_, _, Or.inl (t34.go _ _ rfl).weakQ, hK _ _ ?_⟩) | (refine ⟨_, _, Or.inl (t92.go _ _ rfl), (by first | exact ⟨[], (List.append_nil _).symm⟩ | exact ⟨_, rfl⟩), hK _ _ ?_⟩) | (refine ⟨_, _, Or.inl (t92.go _ _ rfl), hK _ _ ?_⟩) | (refine ⟨_, _, Or.inl (t92.go _ _ rfl).weakQ, hK _ _ ?_⟩) | (refine ⟨_, _, Or.inl (em.go _ _ rfl), (by first | exact ⟨[], (List.append_nil _).symm⟩ | exact ⟨_, rfl⟩), hK _ _ ?_⟩) | (refine ⟨_, _, Or.inl (em.go _ _ rfl), hK _ _ ?_⟩) | (refine ⟨_, _, Or.inl (em.go _ _ rfl).weakQ, hK _ _ ?_⟩) | (refine ⟨_, _, Or.inl ((WriteString_a (b := 1) (b1 := 2) (acc := bytesOf (bs acc)) rfl rfl bl1 hw1)), (by first | exact ⟨[], (List.append_nil _).symm⟩ | exact ⟨_, rfl⟩), hK _ _ ?_⟩) | (refine ⟨_, _, Or.inl ((WriteString_a (b := 1) (b1 := 2) (acc := bytesOf (bs acc)) rfl rfl bl1 hw1)), hK _ _ ?_⟩) | (refine ⟨_, _, Or.inl ((WriteString_a (b := 1) (b1 := 2) (acc := bytesOf (bs acc)) rfl rfl bl1 hw1)).weakQ, hK _ _ ?_⟩) | (refine ⟨_, _, Or.inl ((WriteString_a (b := 1) (b1 := 2) (acc := bytesOf (bs (acc ++ t))) rfl rfl (by rw [← bl2, al]) hw2)), (by first | exact ⟨[], (List.append_nil _).symm⟩ | exact ⟨_, rfl⟩), hK _ _ ?_⟩) | (refine ⟨_, _, Or.inl ((WriteString_a (b := 1) (b1 := 2) (acc := bytesOf (bs (acc ++ t))) rfl rfl (by rw [← bl2, al]) hw2)), hK _ _ ?_⟩) | (refine ⟨_, _, Or.inl ((WriteString_a (b := 1) (b1 := 2) (acc := bytesOf (bs (acc ++ t))) rfl rfl (by rw [← bl2, al]) hw2)).weakQ, hK _ _ ?_⟩)); clear hK K)
        | (with_reducible refine lops_nil ?_)
        | (with_reducible first | refine lavc_reg ?_ | refine lavc_seq ?_ | refine lavc_block ?_ | refine lavc_skip ?_ | refine lavc_exit ?_ | refine lavc_ret ?_ | refine lavcR_round ?_)
        | (refine lavc_cond rfl (fun _ => ?_) (fun hc => absurd hc (by decide)))
        | (refine lavc_cond rfl (fun hc => absurd hc (by decide)) (fun _ => ?_))
        | (simp only [↓reduceIte, Nat.reduceEqDiff, reduceCtorEq]))
      refine ⟨k, (k, v + 1 + 1, acc ++ t ++ bl E, l3, f3), by omega, ⟨rfl, fun _ => by show l3.length + 2 ≤ k; omega, by show 1 ≤ k; omega, by show (acc ++ t ++ bl E).length + 4 * l3.length ≤ 4000000; omega, hi⟩, ?_, ?_⟩
      · try unfold ms33_0
        exact A0 tt
      · simp only [al3, ← ba3]
        rfl
  have h92 : ([92] : List UInt8).isPrefixOf l2 = false := Bool.eq_false_iff.2 h92
  rw [h92, if_neg (by decide)] at hi
  have t92 : MCall Tryz.prog glob 32 [.v (.string ⟨#[92]⟩)] (RB (l2, 0)) (.v (.bool false)) (RB (l2, 0)) := take_n [92] l2 0 h92
  have gm2 := give_m 2 (l2, 0)
  have hg : giveP 2 (l2, 0) = ([], 2) := rfl
  rw [hg] at gm2 hi
  cases a
  · repeat (first
      | (with_reducible refine lops_step fun K hK => ?_; simp (disch := first | exact dch | fail) only [go_sem, Nat.reduceAdd, Nat.reduceSub, reduceIte, Nat.reduceEqDiff, Int.reduceToNat, Int.reduceBEq, Int.reduceBNe, d1, ltn, ldn, hqa, hl2', ht, ba]; (try (first | (refine And.intro (fun _ => ?_) (fun h => absurd h (by decide))) | (refine And.intro (fun h => absurd h (by decide)) (fun _ => ?_)))); (repeat (with_reducible refine And.intro acl ?_)); (first | (refine hK _ _ ?_) | (refine ⟨_, rfl, hK _ _ ?_⟩) | (refine Or.inl (hK _ _ ?_)) | (refine ⟨_, _, Or.inl (ip.go _), (by first | exact ⟨[], (List.append_nil _).symm⟩ | exact ⟨_, rfl⟩), hK _ _ ?_⟩) | (refine ⟨_, _, Or.inl (ip.go _), hK _ _ ?_⟩) | (refine ⟨_, _, Or.inl (ip.go _).weakQ, hK _ _ ?_⟩) | (refine ⟨_, _, Or.inl (dp.go _), (by first | exact ⟨[], (List.append_nil _).symm⟩ | exact ⟨_, rfl⟩), hK _ _ ?_⟩) | (refine ⟨_, _, Or.inl (dp.go _), hK _ _ ?_⟩) | (refine ⟨_, _, Or.inl (dp.go _).weakQ, hK _ _ ?_⟩) | (refine ⟨_, _, Or.inl (t34.go _ _ rfl), (by first | exact ⟨[], (List.append_nil _).symm⟩ | exact ⟨_, rfl⟩), hK _ _ ?_⟩) | (refine ⟨_, _, Or.inl (t34.go _ _ rfl), hK _ _ ?_⟩) | (refine ⟨_, _, Or.inl (t34.go _ _ rfl).weakQ, hK _ _ ?_⟩) | (refine ⟨_, _, Or.inl (t92.go _ _ rfl), (by first | exact ⟨[], (List.append_nil _).symm⟩ | exact ⟨_, rfl⟩), hK _ _ ?_⟩) | (refine ⟨_, _, Or.inl (t92.go _ _ rfl), hK _ _ ?_⟩) | (refine ⟨_, _, Or.inl (t92.go _ _ rfl).weakQ, hK _ _ ?_⟩) | (refine ⟨_, _, Or.inl (gm2.go _ _ rfl), (by first | exact ⟨[], (List.append_nil _).symm⟩ | exact ⟨_, rfl⟩), hK _ _ ?_⟩) | (refine ⟨_, _, Or.inl (gm2.go _ _ rfl), hK _ _ ?_⟩) | (refine ⟨_, _, Or.inl (gm2.go _ _ rfl).weakQ, hK _ _ ?_⟩) | (refine ⟨_, _, Or.inl ((WriteString_a (b := 1) (b1 := 2) (acc := bytesOf (bs acc)) rfl rfl bl1 hw1)), (by first | exact ⟨[], (List.append_nil _).symm⟩ | exact ⟨_, rfl⟩), hK _ _ ?_⟩) | (refine ⟨_, _, Or.inl ((WriteString_a (b := 1) (b1 := 2) (acc := bytesOf (bs acc)) rfl rfl bl1 hw1)), hK _ _ ?_⟩) | (refine ⟨_, _, Or.inl ((WriteString_a (b := 1) (b1 := 2) (acc := bytesOf (bs acc)) rfl rfl bl1 hw1)).weakQ, hK _ _ ?_⟩)); clear hK K)
      | (with_reducible refine lops_nil ?_)
      | (with_reducible first | refine lavc_reg ?_ | refine lavc_seq ?_ | refine lavc_block ?_ | refine lavc_skip ?_ | refine lavc_exit ?_ | refine lavc_ret ?_ | refine lavcR_round ?_)
      | (refine lavc_cond rfl (fun _ => ?_) (fun hc => absurd hc (by decide)))
      | (refine lavc_cond rfl (fun hc => absurd hc (by decide)) (fun _ => ?_))
      | (simp only [↓reduceIte, Nat.reduceEqDiff, reduceCtorEq]))
    refine ⟨k, (k, v + 1, acc ++ t, [], 2), by omega, ⟨rfl, fun h => (by cases h), by show 1 ≤ k; omega, by show (acc ++ t).length + 0 ≤ 4000000; omega, hi⟩, ?_, ?_⟩
    · try unfold ms33_0
      exact A0 tt
    · simp only [al]
      rfl
  · have q2 := hq2 rfl
    repeat (first
      | (with_reducible refine lops_step fun K hK => ?_; simp (disch := first | exact dch | fail) only [go_sem, Nat.reduceAdd, Nat.reduceSub, reduceIte, Nat.reduceEqDiff, Int.reduceToNat, Int.reduceBEq, Int.reduceBNe, d1, ltn, ldn, hqa, q2, hl2', ht, ba]; (try (first | (refine And.intro (fun _ => ?_) (fun h => absurd h (by decide))) | (refine And.intro (fun h => absurd h (by decide)) (fun _ => ?_)))); (repeat (with_reducible refine And.intro acl ?_)); (first | (refine hK _ _ ?_) | (refine ⟨_, rfl, hK _ _ ?_⟩) | (refine Or.inl (hK _ _ ?_)) | (refine ⟨_, _, Or.inl (ip.go _), (by first | exact ⟨[], (List.append_nil _).symm⟩ | exact ⟨_, rfl⟩), hK _ _ ?_⟩) | (refine ⟨_, _, Or.inl (ip.go _), hK _ _ ?_⟩) | (refine ⟨_, _, Or.inl (ip.go _).weakQ, hK _ _ ?_⟩) | (refine ⟨_, _, Or.inl (dp.go _), (by first | exact ⟨[], (List.append_nil _).symm⟩ | exact ⟨_, rfl⟩), hK _ _ ?_⟩) | (refine ⟨_, _, Or.inl (dp.go _), hK _ _ ?_⟩) | (refine ⟨_, _, Or.inl (dp.go _).weakQ, hK _ _ ?_⟩) | (refine ⟨_, _, Or.inl (t34.go _ _ rfl), (by first | exact ⟨[], (List.append_nil _).symm⟩ | exact ⟨_, rfl⟩), hK _ _ ?_⟩) | (refine ⟨_, _, Or.inl (t34.go _ _ rfl), hK _ _ ?_⟩) | (refine ⟨_, _, Or.inl (t34.go _ _ rfl).weakQ, hK _ _ ?_⟩) | (refine ⟨_, _, Or.inl (t92.go _ _ rfl), (by first | exact ⟨[], (List.append_nil _).symm⟩ | exact ⟨_, rfl⟩), hK _ _ ?_⟩) | (refine ⟨_, _, Or.inl (t92.go _ _ rfl), hK _ _ ?_⟩) | (refine ⟨_, _, Or.inl (t92.go _ _ rfl).weakQ, hK _ _ ?_⟩) | (refine ⟨_, _, Or.inl (gm2.go _ _ rfl), (by first | exact ⟨[], (List.append_nil _).symm⟩ | exact ⟨_, rfl⟩), hK _ _ ?_⟩) | (refine ⟨_, _, Or.inl (gm2.go _ _ rfl), hK _ _ ?_⟩) | (refine ⟨_, _, Or.inl (gm2.go _ _ rfl).weakQ, hK _ _ ?_⟩) | (refine ⟨_, _, Or.inl ((WriteString_a (b := 1) (b1 := 2) (acc := bytesOf (bs acc)) rfl rfl bl1 hw1)), (by first | exact ⟨[], (List.append_nil _).symm⟩ | exact ⟨_, rfl⟩), hK _ _ ?_⟩) | (refine ⟨_, _, Or.inl ((WriteString_a (b := 1) (b1 := 2) (acc := bytesOf (bs acc)) rfl rfl bl1 hw1)), hK _ _ ?_⟩) | (refine ⟨_, _, Or.inl ((WriteString_a (b := 1) (b1 := 2) (acc := bytesOf (bs acc)) rfl rfl bl1 hw1)).weakQ, hK _ _ ?_⟩)); clear hK K)
      | (with_reducible refine lops_nil ?_)
      | (with_reducible first | refine lavc_reg ?_ | refine lavc_seq ?_ | refine lavc_block ?_ | refine lavc_skip ?_ | refine lavc_exit ?_ | refine lavc_ret ?_ | refine lavcR_round ?_)
      | (refine lavc_cond rfl (fun _ => ?_) (fun hc => absurd hc (by decide)))
      | (refine lavc_cond rfl (fun hc => absurd hc (by decide)) (fun _ => ?_))
      | (simp only [↓reduceIte, Nat.reduceEqDiff, reduceCtorEq]))
    refine ⟨k, (k, v + 1, acc ++ t, [], 2), by omega, ⟨rfl, fun h => (by cases h), by show 1 ≤ k; omega, by show (acc ++ t).length + 0 ≤ 4000000; omega, hi⟩, ?_, ?_⟩
    · try unfold ms33_0
      exact A0 tt
    · simp only [al]
      rfl
end Go.Abs.S
namespace Go.Abs.S
attribute [local go_sem] lguard aopO aop aenv toAV tput aLoad aStore vcells aBin aNilI aUn aAlloc aBox aBuild aBSlice afill aConv isIntT aappZ aCap aArr aMM aMake aSlice bnd3 bnd aFldAddr aFld aIdxAddr aIdx aExt aLen aCopy aEq0 bAV aUb aapp aappQ agh acont List.getD_cons_zero List.getD_cons_succ List.set_cons_zero List.set_cons_succ List.getElem?_cons_zero List.getElem?_cons_succ List.length_cons List.length_nil List.map_cons List.map_nil ints_length if_true if_false Bool.false_eq_true true_and and_true eq_self ne_eq not_false_eq_true not_true_eq_false beq_self_eq_true Nat.zero_add Nat.add_zero Nat.mul_one Nat.zero_mul Int.toNat_natCast List.toList_toArray List.all_cons List.all_nil AV.one Value.oneCell' Bool.and_true Bool.true_and forall_const true_implies false_implies implies_true Option.map_some Option.map_none Option.isSome_some Option.isSome_none imp_self rdP_flat rdP_row splice_one ints_set ints_get List.append_nil List.cons_append List.nil_append List.getElem?_toArray List.drop_zero ints_drop ints_take List.take_of_length_le splice_all ints_one Option.some.injEq Option.getD_some List.length_replicate zArr List.map_replicate rep_ints splice_intsR List.length_set List.length_append List.flatten_replicate_singleton rep_slice rep_string rep_bool rep_iface List.replicate_zero if_pos if_neg List.mapM_cons List.mapM_nil Option.pure_def Option.bind_eq_bind Option.bind_some Bool.true_eq_false Bool.not_false Bool.not_true get_concat set_concat
open Go.Proofs
set_option linter.unusedVariables false
set_option linter.unusedSimpArgs false
set_option maxRecDepth 100000
set_option maxHeartbeats 8000000
theorem give_len (e : Int) (s : St) : (giveP e s).1.length ≤ s.1.length := by
  unfold giveP
  split
  · exact Nat.zero_le _
  · exact Nat.le_refl _
theorem drop_len {α : Type} (p : α → Bool) : ∀ l : List α, (l.dropWhile p).length ≤ l.length
  | [] => Nat.le_refl _
  | a :: l => by
    rw [List.dropWhile_cons]
    split
    · have := drop_len p l
      rw [List.length_cons]
      omega
    · exact Nat.le_refl _
theorem blanks_len (s : St) : (blanksP s).1.length ≤ s.1.length := drop_len _ _
theorem take_len (p : List UInt8) (s : St) : (takeP p s).1.length ≤ s.1.length := by
  unfold takeP
  split
  · rw [List.length_drop]
    omega
  · exact Nat.le_refl _
theorem text_len : ∀ (n : Nat) (acc : List UInt8) (s : St), (textP n acc s).2.1.length ≤ s.1.length
  | 0, acc, s => Nat.le_refl _
  | n + 1, acc, s => by
    rw [textP]
    split
    · exact Nat.le_refl _
    split
    · exact give_len _ _
    · simp only
      have hd : ∀ i, (s.1.drop i).length ≤ s.1.length := fun i => by rw [List.length_drop]; omega
      split
      · refine Nat.le_trans (text_len n _ _) ?_
        simp only [List.length_drop]
        omega
      split
      · simp only [List.length_drop]
        omega
      split
      · refine Nat.le_trans (text_len n _ _) (Nat.le_trans (esc_len _).2 ?_)
        simp only [List.length_drop]
        omega
      · exact Nat.le_trans (text_len n _ _) (Nat.le_trans (give_len _ _) (hd _))
theorem idxL_eq (x : ByteArray) : ∀ (l : List ByteArray) (k : Nat), decide (0 ≤ idxK l x k) = idxL l x
  | [], k => rfl
  | a :: l, k => by
    rw [idxK, idxL]
    by_cases h : x = a
    · rw [if_pos h, if_pos h, decide_eq_true_eq]
      omega
    · rw [if_neg h, if_neg h, idxL_eq x l (k + 1)]
theorem takeT (p : List UInt8) (s : St) (b : Bool) (h : p.isPrefixOf s.1 = b) : MCall Tryz.prog glob 32 [.v (.string (bs p))] (RB s) (.v (.bool b)) (RB (if b = true then takeP p s else s)) := by
  have := take_m p s
  rw [h] at this
  cases b
  · have e : takeP p s = s := by
      unfold takeP
      rw [h]
      rfl
    rw [e] at this
    exact this
  · exact this
theorem name_m (l : List ByteArray) (c : Option Nat) (hl : l.length ≤ 1000) (s : St) (hs : s.1.length ≤ 1000000) :
    MCall Tryz.prog glob 47 [.vsl l.length (strs l) c] (RB s) (.v (.string (nameP l s).1)) (RB (nameP l s).2) := by
  refine MCall.of ctx.nr rfl rfl (List.forall_mem_cons.2 ⟨NR.vsl (NR.strs _), fun _ h => absurd h List.not_mem_nil⟩) (NR.v _) (RB.nr _) (RB.nr _) ?_
  refine lcall47 (by simp) 1 (Nat.le_refl _) ?_
  unfold lc47
  refine I1 tt ⟨?_⟩
  obtain ⟨V, hV⟩ : ∃ V, nameP l s = V := ⟨_, rfl⟩
  rw [hV]
  unfold nameP at hV
  simp only at hV
  have b1 := blanks_m s
  have z1 := blanks_len s
  obtain ⟨s1, hs1⟩ : ∃ x, blanksP s = x := ⟨_, rfl⟩
  rw [hs1] at b1 z1 hV
  obtain ⟨q, hq⟩ : ∃ q, ([34] : List UInt8).isPrefixOf s1.1 = q := ⟨_, rfl⟩
  rw [hq] at hV
  have t1 : MCall Tryz.prog glob 32 [.v (.string ⟨#[34]⟩)] (RB s1) (.v (.bool q)) (RB (if q = true then takeP [34] s1 else s1)) := takeT [34] s1 q hq
  have g1 := give_m 2 s1
  obtain ⟨s2, hs2⟩ : ∃ x, (if q = true then takeP [34] s1 else giveP 2 s1) = x := ⟨_, rfl⟩
  have z2 : s2.1.length ≤ s1.1.length := by
    rw [← hs2]
    split
    · exact take_len _ _
    · exact give_len _ _
  rw [hs2] at hV
  have x2 := text_m s2 (by omega)
  obtain ⟨⟨t, l3, f3⟩, hx⟩ : ∃ x, textR s2 = x := ⟨_, rfl⟩
  rw [hx] at x2 hV
  simp only at x2 hV
  have cp := contains_p l c (bs t) hl
  rw [idxL_eq] at cp
  obtain ⟨k, hk⟩ : ∃ k, idxL l (bs t) = k := ⟨_, rfl⟩
  rw [hk] at cp hV
  have g4 := give_m 10 (l3, f3)
  obtain ⟨e, he⟩ : ∃ e, (f3 == 0) = e := ⟨_, rfl⟩
  have hs4 : (if f3 = 0 ∧ k = true then giveP 10 (l3, f3) else (l3, f3)) = if (e && k) = true then giveP 10 (l3, f3) else (l3, f3) := by
    rw [← he]
    congr 1
    simp
  rw [hs4] at hV
  obtain ⟨s4, h4⟩ : ∃ x, (if (e && k) = true then giveP 10 (l3, f3) else (l3, f3)) = x := ⟨_, rfl⟩
  rw [h4] at hV
  have b4 := blanks_m s4
  obtain ⟨s5, hs5⟩ : ∃ x, blanksP s4 = x := ⟨_, rfl⟩
  rw [hs5] at b4 hV
  obtain ⟨d, hd⟩ : ∃ q, ([58] : List UInt8).isPrefixOf s5.1 = q := ⟨_, rfl⟩
  rw [hd] at hV
  have t5 : MCall Tryz.prog glob 32 [.v (.string ⟨#[58]⟩)] (RB s5) (.v (.bool d)) (RB (if d = true then takeP [58] s5 else s5)) := takeT [58] s5 d hd
  have g5 := give_m 2 s5
  subst hV
  cases q <;> cases e <;> cases k <;> cases d
  all_goals
    simp only [Bool.false_eq_true, if_false, if_true, Bool.and_true, Bool.and_false, Bool.true_and, Bool.false_and] at hs2 h4 t1 t5 ⊢
    subst hs2 h4
    repeat (first
      | (with_reducible refine lops_step fun K hK => ?_; simp (disch := first | exact dch | fail) only [go_sem, Nat.reduceAdd, Nat.reduceSub, reduceIte, Nat.reduceEqDiff, Int.reduceToNat, Int.reduceBEq, Int.reduceBNe, he, Bool.not_true, Bool.not_false]; (try (first | (refine And.intro (fun _ => ?_) (fun h => absurd h (by decide))) | (refine And.intro (fun h => absurd h (by decide)) (fun _ => ?_)))); (repeat (with_reducible refine And.intro acl ?_)); (first | (refine hK _ _ ?_) | (refine ⟨_, rfl, hK _ _ ?_⟩) | (refine Or.inl (hK _ _ ?_)) | (refine ⟨_, _, Or.inl (b1.go _ _ rfl), (by first | exact ⟨[], (List.append_nil _).symm⟩ | exact ⟨_, rfl⟩), hK _ _ ?_⟩) | (refine ⟨_, _, Or.inl (b1.go _ _ rfl), hK _ _ ?_⟩) | (refine ⟨_, _, Or.inl (b1.go _ _ rfl).weakQ, hK _ _ ?_⟩) | (refine ⟨_, _, Or.inl (t1.go _ _ rfl), (by first | exact ⟨[], (List.append_nil _).symm⟩ | exact ⟨_, rfl⟩), hK _ _ ?_⟩) | (refine ⟨_, _, Or.inl (t1.go _ _ rfl), hK _ _ ?_⟩) | (refine ⟨_, _, Or.inl (t1.go _ _ rfl).weakQ, hK _ _ ?_⟩) | (refine ⟨_, _, Or.inl (g1.go _ _ rfl), (by first | exact ⟨[], (List.append_nil _).symm⟩ | exact ⟨_, rfl⟩), hK _ _ ?_⟩) | (refine ⟨_, _, Or.inl (g1.go _ _ rfl), hK _ _ ?_⟩) | (refine ⟨_, _, Or.inl (g1.go _ _ rfl).weakQ, hK _ _ ?_⟩) | (refine ⟨_, _, Or.inl (x2.go _ _ rfl), (by first | exact ⟨[], (List.append_nil _).symm⟩ | exact ⟨_, rfl⟩), hK _ _ ?_⟩) | (refine ⟨_, _, Or.inl (x2.go _ _ rfl), hK _ _ ?_⟩) | (refine ⟨_, _, Or.inl (x2.go _ _ rfl).weakQ, hK _ _ ?_⟩) | (refine ⟨_, _, Or.inl (cp.go _), (by first | exact ⟨[], (List.append_nil _).symm⟩ | exact ⟨_, rfl⟩), hK _ _ ?_⟩) | (refine ⟨_, _, Or.inl (cp.go _), hK _ _ ?_⟩) | (refine ⟨_, _, Or.inl (cp.go _).weakQ, hK _ _ ?_⟩) | (refine ⟨_, _, Or.inl (g4.go _ _ rfl), (by first | exact ⟨[], (List.append_nil _).symm⟩ | exact ⟨_, rfl⟩), hK _ _ ?_⟩) | (refine ⟨_, _, Or.inl (g4.go _ _ rfl), hK _ _ ?_⟩) | (refine ⟨_, _, Or.inl (g4.go _ _ rfl).weakQ, hK _ _ ?_⟩) | (refine ⟨_, _, Or.inl (b4.go _ _ rfl), (by first | exact ⟨[], (List.append_nil _).symm⟩ | exact ⟨_, rfl⟩), hK _ _ ?_⟩) | (refine ⟨_, _, Or.inl (b4.go _ _ rfl), hK _ _ ?_⟩) | (refine ⟨_, _, Or.inl (b4.go _ _ rfl).weakQ, hK _ _ ?_⟩) | (refine ⟨_, _, Or.inl (t5.go _ _ rfl), (by first | exact ⟨[], (List.append_nil _).symm⟩ | exact ⟨_, rfl⟩), hK _ _ ?_⟩) | (refine ⟨_, _, Or.inl (t5.go _ _ rfl), hK _ _ ?_⟩) | (refine ⟨_, _, Or.inl (t5.go _ _ rfl).weakQ, hK _ _ ?_⟩) | (refine ⟨_, _, Or.inl (g5.go _ _ rfl), (by first | exact ⟨[], (List.append_nil _).symm⟩ | exact ⟨_, rfl⟩), hK _ _ ?_⟩) | (refine ⟨_, _, Or.inl (g5.go _ _ rfl), hK _ _ ?_⟩) | (refine ⟨_, _, Or.inl (g5.go _ _ rfl).weakQ, hK _ _ ?_⟩)); clear hK K)
      | (with_reducible refine lops_nil ?_)
      | (with_reducible first | refine lavc_reg ?_ | refine lavc_seq ?_ | refine lavc_block ?_ | refine lavc_skip ?_ | refine lavc_exit ?_ | refine lavc_ret ?_ | refine lavcR_round ?_)
      | (refine lavc_cond rfl (fun _ => ?_) (fun hc => absurd hc (by decide)))
      | (refine lavc_cond rfl (fun hc => absurd hc (by decide)) (fun _ => ?_))
      | (simp only [↓reduceIte, Nat.reduceEqDiff, reduceCtorEq]))
    refine R1 tt ⟨?_⟩
    exact end1 (NR.v _) rfl (RB.nr _) rfl
end Go.Abs.S
namespace Go.Abs
set_option linter.unusedVariables false
set_option linter.unusedSimpArgs false
variable {P : Program} {G : Glob} {σ : Sig} {H : AHeap} {w : World}
theorem afz_keep {b : Nat} {K : List AV → AHeap → Prop} : ∀ {bs : List Nat} {t : List AV} {H : AHeap}, b ∉ bs → afz bs t H K → afz bs t H fun t' H' => K t' H' ∧ H'[b]? = H[b]?
  | [], t, H, _, h => ⟨h, rfl⟩
  | c :: bs, t, H, hb, h => by
    unfold afz at h ⊢
    cases hk : H[c]? with
    | none => simp [hk] at h
    | some k =>
      simp only [hk] at h ⊢
      refine ⟨h.1, afz_mono (fun t' H' hh => ⟨hh.1, hh.2.trans ?_⟩) (afz_keep (fun hh => hb (List.mem_cons_of_mem _ hh)) h.2)⟩
      rw [List.getElem?_set_ne (fun e => hb (by rw [← e]; exact List.mem_cons_self))]
theorem MCall.live (hG : GN G) {n : FuncId} {args : List AV} {k k' : Blk} {r : AV} (bs : List Nat) {b : Nat} (hb : H[b]? = some k) (hnb : b ∉ bs) (hlv : k.live = true) (hlv' : k'.live = true) (hk : ∀ c ∈ k.cells, NR c) (fk : ∀ c ∈ k'.cells, Flat c) (fr : Flat r)
    (h : afz bs args H fun args' _ => (∀ a ∈ args', NR a) ∧ MCall P G n args' k r k') : ACall P G false n (.ptr b k.ver 0 :: args) H r (H.set b k') := by
  have hcall : Callable P n := by
    have key : ∀ {bs : List Nat} {t : List AV} {H : AHeap}, afz bs t H (fun args' _ => (∀ a ∈ args', NR a) ∧ MCall P G n args' k r k') → Callable P n := by
      intro bs
      induction bs with
      | nil => exact fun h => (h.2 [k] 0 rfl).1
      | cons b bs ih =>
        intro t H h
        unfold afz at h
        cases hk : H[b]? with
        | none => simp [hk] at h
        | some k =>
          simp only [hk] at h
          exact ih h.2
    exact key h
  refine ⟨hcall, fun σ w us hu ha rel => ?_⟩
  have hblt : b < H.length := (List.getElem?_eq_some_iff.1 hb).1
  obtain ⟨us', hus'⟩ : ∃ us' : Array Value, us' = (us.toList.drop 1).toArray := ⟨_, rfl⟩
  have hsz : us'.size = args.length := by
    rw [hus']
    simp only [List.length_cons] at hu
    simp [hu]
  have hg : ∀ j, us'.getD j undef = us.getD (j + 1) undef := fun j => by
    rw [hus']
    simp [Array.getD_eq_getD_getElem?, Nat.add_comm]
  obtain ⟨t', H', σ', ⟨⟨hn, hm⟩, hkb⟩, s', x'⟩ := afz_ok (afz_keep hnb h) (σ := σ) (a := { tmps := us', defers := [] }) (w := w) ⟨rfl, hsz, fun j hj => by
    have := ha (j + 1) (by simpa using hj)
    rw [hg j]
    simpa using this, rel⟩
  have hb' : H'[b]? = some k := hkb.trans hb
  have hro0 : ∀ B, σ.ro B → σ'.ro B := x'.ro
  let σl : Sig := ⟨fun i ver => if i = 0 then σ.ρ b ver else none, σ'.ro⟩
  have hl0 : ∀ ver, σl.ρ 0 ver = σ.ρ b ver := fun ver => by simp [σl]
  have relL : Rel G σl [k] w := by
    refine ⟨fun i k0 l g1 g2 g3 => ?_, fun b1 b2 k1 k2 l1 l2 g1 _ _ f1 _ _ _ => ?_, fun i k0 l g1 g2 g3 => ?_, s'.rel.roLt, fun i ver l g => ?_, fun g => (hG g).into (rel.glob g) hro0, fun i ver l g => ?b0⟩
    case b0 =>
      simp only [σl] at g
      split at g
      · exact rel.base0 b ver l g
      · cases g
    · have hi : i = 0 := by
        have := (List.getElem?_eq_some_iff.1 g1).1
        simpa using this
      subst hi
      simp at g1
      subst g1
      obtain ⟨C, fr, c1, c2, c3, c4, c5⟩ := rel.blk b k l hb g2 (by rw [← hl0]; exact g3)
      refine ⟨C, fr, c1, c2, c3, c4, fun j hj => ?_⟩
      obtain ⟨y, e1, e2⟩ := c5 j hj
      exact ⟨y, e1, (hk _ (by simp [List.getD_eq_getElem?_getD, hj])).into e2 hro0⟩
    · have := (List.getElem?_eq_some_iff.1 g1).1
      have := (List.getElem?_eq_some_iff.1 f1).1
      simp at *
      omega
    · have hi : i = 0 := by
        have := (List.getElem?_eq_some_iff.1 g1).1
        simpa using this
      subst hi
      simp at g1
      subst g1
      exact s'.rel.apart b k l hb' g2 (x'.ρ b k.ver l (by rw [← hl0]; exact g3))
    · simp only [σl] at g
      split at g
      · rename_i e
        subst e
        obtain ⟨k0, e1, e2⟩ := rel.fresh b ver l g
        rw [hb] at e1
        cases e1
        exact ⟨k, rfl, e2⟩
      · cases g
  have ht' : t'.length = args.length := by
    have : us'.size = t'.length := s'.size
    omega
  have argsL : ∀ j, j < (AV.ptr 0 k.ver 0 :: t').length → AR σl w ((AV.ptr 0 k.ver 0 :: t').getD j .any) (us.getD j undef) := by
    intro j hj
    cases j with
    | zero =>
      have := ha 0 (by simp)
      simp only [List.getD_cons_zero] at this ⊢
      generalize us.getD 0 undef = u0 at *
      cases this with
      | ptr hl => exact .ptr (σ := σl) (by rw [hl0]; exact hl)
    | succ j =>
      simp only [List.getD_cons_succ]
      have hj' : j < t'.length := by simpa using hj
      have := s'.tmps j hj'
      rw [hg j] at this
      exact (hn _ (by simp [List.getD_eq_getElem?_getD, hj'])).into this (fun _ h => h)
  refine ((hm [k] 0 rfl).2 σl w us (by simpa [ht'] using hu) argsL relL).mono fun e w' ⟨u, he, σ1, a1, a2, a3, _⟩ => ⟨u, he, ?_⟩
  have himg : ∀ B, Img σl [k] B → ∃ l, σ.ρ b k.ver = some l ∧ l.B = B := by
    rintro B ⟨i, k0, l, g1, g2, g3, g4⟩
    have hi : i = 0 := by
      have := (List.getElem?_eq_some_iff.1 g1).1
      simpa using this
    subst hi
    simp at g1
    subst g1
    exact ⟨l, by rw [← hl0]; exact g3, g4⟩
  have himgH : ∀ B, Img σl [k] B → Img σ H B := fun B hB => by
    obtain ⟨l, g1, g2⟩ := himg B hB
    exact ⟨b, k, l, hb, hlv, g1, g2⟩
  have hroH : ∀ B, σ.ro B → w'.heap[B]? = w.heap[B]? := fun B hB => a3.frame B (rel.roLt B hB) fun hi => by
    obtain ⟨l, g1, g2⟩ := himg B hi
    exact rel.apart b k l hb hlv g1 (g2 ▸ hB)
  let σ2 : Sig := ⟨fun b' ver => if b' = b then σ1.ρ 0 ver else σ.ρ b' ver, σ.ro⟩
  have hρ : ∀ b' ver l, σ.ρ b' ver = some l → σ2.ρ b' ver = some l := fun b' ver l hl => by
    simp only [σ2]
    by_cases e : b' = b
    · subst e
      rw [if_pos rfl]
      exact a3.ρ 0 ver l (by rw [hl0]; exact hl)
    · rw [if_neg e]
      exact hl
  have hm2 : ∀ x v, AR σ w x v → AR σ2 w' x v := fun x v h => AR.mono (σ := σ) (σ' := σ2) hρ (fun _ h => h) hroH h
  have hget : ∀ (b' : Nat) (k0 : Blk), (H.set b k')[b']? = some k0 → (b' ≠ b ∧ H[b']? = some k0) ∨ (b' = b ∧ k0 = k') := by
    intro b' k0 h
    rw [List.getElem?_set] at h
    split at h
    · rename_i e
      subst e
      try rw [if_pos hblt] at h
      exact .inr ⟨rfl, (Option.some.inj h).symm⟩
    · rename_i e
      exact .inl ⟨fun e' => e e'.symm, h⟩
  have hthe : ∀ ver l, σ2.ρ b ver = some l → σ1.ρ 0 ver = some l := fun ver l h => by
    simp only [σ2] at h
    simpa using h
  have hoth : ∀ b' ver l, b' ≠ b → σ2.ρ b' ver = some l → σ.ρ b' ver = some l := fun b' ver l hne h => by
    simp only [σ2] at h
    rwa [if_neg hne] at h
  have hfar : ∀ b' k0 l l1, b' ≠ b → H[b']? = some k0 → k0.live = true → σ.ρ b' k0.ver = some l → σ1.ρ 0 k'.ver = some l1 → l.B ≠ l1.B := by
    intro b' k0 l l1 hne g1 g2 g3 g4 e
    have hlt := rel.lt g1 g2 g3
    rcases a3.new 0 k'.ver l1 g4 with h | h | h
    · obtain ⟨k2, f1, f2, f3⟩ := a3.stay 0 k' l1 rfl hlv' h
      simp at f1
      subst f1
      rw [← f3, hl0] at h
      exact hne (rel.inj b' b k0 k l l1 g1 g2 g3 hb hlv h e)
    · omega
    · obtain ⟨l2, f1, f2⟩ := himg _ h
      exact hne (rel.inj b' b k0 k l l2 g1 g2 g3 hb hlv f1 (e.trans f2.symm))
  refine ⟨σ2, fr _ _ _ _ _ a1, ⟨?_, ?_, ?_, fun B hB => Nat.lt_of_lt_of_le (rel.roLt B hB) a3.size, ?_, fun g => hm2 _ _ (rel.glob g), fun b' ver l g => ?b0⟩, ⟨a3.os, a3.tape, a3.output, a3.size, hρ, fun _ h => h, fun B hB hn => a3.frame B hB (fun hi => hn (himgH B hi)), ?_, ?_, fun B hB => .inl hB, by simp⟩, fun h => by cases h⟩
  case b0 =>
    by_cases e : b' = b
    · subst e
      simp only [σ2, if_true] at g
      exact a2.base0 0 ver l g
    · exact rel.base0 b' ver l (hoth _ _ _ e g)
  · intro b' k0 l g1 g2 g3
    rcases hget b' k0 g1 with ⟨hne, g4⟩ | ⟨rfl, rfl⟩
    · have g5 := hoth _ _ _ hne g3
      obtain ⟨C, fr, c1, c2, c3, c4, c5⟩ := rel.blk b' k0 l g4 g2 g5
      have hkeep : w'.heap[l.B]? = w.heap[l.B]? := a3.frame _ (rel.lt g4 g2 g5) fun hi => by
        obtain ⟨l2, f1, f2⟩ := himg _ hi
        exact hne (rel.inj b' b k0 k l l2 g4 g2 g5 hb hlv f1 f2.symm)
      refine ⟨C, fr, by rw [hkeep]; exact c1, c2, c3, c4, fun j hj => ?_⟩
      obtain ⟨y, e1, e2⟩ := c5 j hj
      exact ⟨y, e1, hm2 _ _ e2⟩
    · obtain ⟨C, fr, c1, c2, c3, c4, c5⟩ := a2.blk 0 k0 l rfl g2 (hthe _ _ g3)
      refine ⟨C, fr, c1, c2, c3, c4, fun j hj => ?_⟩
      obtain ⟨y, e1, e2⟩ := c5 j hj
      exact ⟨y, e1, fk _ (by simp [List.getD_eq_getElem?_getD, hj]) _ _ _ _ _ e2⟩
  · intro b1 b2 k1 k2 l1 l2 g1 g2 g3 f1 f2 f3 ee
    rcases hget b1 k1 g1 with ⟨n1, g4⟩ | ⟨rfl, rfl⟩ <;> rcases hget b2 k2 f1 with ⟨n2, f4⟩ | ⟨rfl, rfl⟩
    · exact rel.inj b1 b2 k1 k2 l1 l2 g4 g2 (hoth _ _ _ n1 g3) f4 f2 (hoth _ _ _ n2 f3) ee
    · exact absurd ee (hfar b1 k1 l1 l2 n1 g4 g2 (hoth _ _ _ n1 g3) (hthe _ _ f3))
    · exact absurd ee.symm (hfar b2 k2 l2 l1 n2 f4 f2 (hoth _ _ _ n2 f3) (hthe _ _ g3))
    · rfl
  · intro b' k0 l g1 g2 g3 g4
    rcases hget b' k0 g1 with ⟨hne, f4⟩ | ⟨rfl, rfl⟩
    · exact rel.apart b' k0 l f4 g2 (hoth _ _ _ hne g3) g4
    · exact a2.apart 0 k0 l rfl g2 (hthe _ _ g3) (a3.ro _ (hro0 _ g4))
  · intro b' ver l h
    by_cases e : b' = b
    · subst e
      obtain ⟨k0, e1, e2⟩ := a2.fresh 0 ver l (hthe _ _ h)
      simp at e1
      subst e1
      exact ⟨_, List.getElem?_set_self hblt, e2⟩
    · obtain ⟨k0, e1, e2⟩ := rel.fresh b' ver l (hoth _ _ _ e h)
      exact ⟨k0, by rw [List.getElem?_set_ne (fun e' => e e'.symm)]; exact e1, e2⟩
  · intro b' ver l h
    by_cases e : b' = b
    · subst e
      rcases a3.new 0 ver l (hthe _ _ h) with h1 | h1 | h1
      · exact .inl (by rw [← hl0]; exact h1)
      · exact .inr (.inl h1)
      · exact .inr (.inr (himgH _ h1))
    · exact .inl (hoth _ _ _ e h)
  · intro b' k0 l g1 g2 g3
    rcases hget b' k0 g1 with ⟨hne, f4⟩ | ⟨rfl, rfl⟩
    · exact ⟨k0, f4, g2, rfl⟩
    · obtain ⟨k2, f1, f2, f3⟩ := a3.stay 0 k0 l rfl g2 (by rw [hl0]; exact g3)
      simp at f1
      subst f1
      exact ⟨_, hb, f2, f3⟩
end Go.Abs
