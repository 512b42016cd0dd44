/- A value, as the document has it: Ref. The document's Same. PageSame, the law. -/
import Derived.Test.YtdbpaahdonplbaaDoorJP4
import Derived.Test.YtdbpaahdonplbaaDoorJP8
import Derived.Test.YtdbpaahdonplbaaDoorJP5
import Derived.Test.YtdbpaahdonplbaaDoorJP11
import Derived.Test.YtdbpaahdonplbaaDoorJP9
import Derived.Test.YtdbpaahdonplbaaDoorJP6
namespace Go.Abs.S
attribute [local go_sem] lguard aopO aop aenv toAV tput aLoad aStore vcells aBin aNilI aUn aAlloc aBox aBuild aBSlice afill aConv isIntT aappZ aCap aArr aMM aMake aSlice bnd3 bnd aFldAddr aFld aIdxAddr aIdx aExt aLen aCopy aEq0 bAV aUb aapp aappQ agh acont List.getD_cons_zero List.getD_cons_succ List.set_cons_zero List.set_cons_succ List.getElem?_cons_zero List.getElem?_cons_succ List.length_cons List.length_nil List.map_cons List.map_nil ints_length if_true if_false Bool.false_eq_true true_and and_true eq_self ne_eq not_false_eq_true not_true_eq_false beq_self_eq_true Nat.zero_add Nat.add_zero Nat.mul_one Nat.zero_mul Int.toNat_natCast List.toList_toArray List.all_cons List.all_nil AV.one Value.oneCell' Bool.and_true Bool.true_and forall_const true_implies false_implies implies_true Option.map_some Option.map_none Option.isSome_some Option.isSome_none imp_self rdP_flat rdP_row splice_one ints_set ints_get List.append_nil List.cons_append List.nil_append List.getElem?_toArray List.drop_zero ints_drop ints_take List.take_of_length_le splice_all ints_one Option.some.injEq Option.getD_some List.length_replicate zArr List.map_replicate rep_ints splice_intsR List.length_set List.length_append List.flatten_replicate_singleton rep_slice rep_string rep_bool rep_iface List.replicate_zero if_pos if_neg List.mapM_cons List.mapM_nil Option.pure_def Option.bind_eq_bind Option.bind_some Bool.true_eq_false Bool.not_false Bool.not_true get_concat set_concat
open Go.Proofs
set_option linter.unusedVariables false
set_option linter.unusedSimpArgs false
set_option maxRecDepth 100000
set_option maxHeartbeats 8000000
abbrev rB (k : Int) (t : ByteArray) (ns : List ByteArray) (vs : List Val) : Blk := ⟨[ivC k, stA t, .vsl ns.length (strs ns) none, .vsl vs.length (cellsL vs) none], 0, true, 26⟩
abbrev rZ : Blk := ⟨[ivC 0, stA ⟨#[]⟩, nlA, nlA], 0, true, 45⟩
/-- Memory while a value's values are taken over. -/
def HV (k : Int) (t : ByteArray) (ns : List ByteArray) (vs us : List Val) (X : Blk) (gg : AHeap) : AHeap := if us = [] then [rB k t ns vs, rZ, ⟨[ivC k, stA t, .vsl ns.length (strs ns) none, nlA], 0, true, 45⟩]
  else rB k t ns vs :: rZ :: ⟨[ivC k, stA t, .vsl ns.length (strs ns) none, .sl 4 (us.length - 1) 0 us.length us.length 4 false], 0, true, 45⟩ :: X :: ⟨cellsL us, us.length - 1, true, 45⟩ :: gg
theorem HV_cons (k : Int) (t : ByteArray) (ns : List ByteArray) (vs us : List Val) (h : us ≠ []) (X : Blk) (gg : AHeap) : HV k t ns vs us X gg = rB k t ns vs :: rZ :: ⟨[ivC k, stA t, .vsl ns.length (strs ns) none, .sl 4 (us.length - 1) 0 us.length us.length 4 false], 0, true, 45⟩ :: X :: ⟨cellsL us, us.length - 1, true, 45⟩ :: gg := if_neg h
theorem slV {H : AHeap} {lo b ver : Nat} {e : TypeId} (vs : List Val) (hlo : lo ≤ b) (hb : H[b]? = some ⟨cellsL vs, ver, true, e⟩) : View lo H (.sl b ver 0 vs.length vs.length 4 false) (.vsl vs.length (cellsL vs) none) := by
  have hl := cellsL_length vs
  have := View.sl (x := false) (lo := lo) (off := 0) (len := vs.length) (cap := vs.length) (sz := 4) hlo hb rfl rfl (Nat.le_refl _) (by show 0 + vs.length * 4 ≤ (cellsL vs).length; omega) (cellsL_nr vs)
  simp only [List.drop_zero] at this
  rw [List.take_of_length_le (by omega)] at this
  exact this
theorem ref_p : ∀ v : Val, small v → PCall Tryd.prog glob 18 [vA v] (vA v) := Val.ind fun k t ns vs ih hsm => by
  obtain ⟨⟨ht, hn, hz, hv⟩, hall⟩ := hsm.at
  have hlx := cellsL_length vs
  have hnx := strs_length ns
  refine PCall.of ctx.nr (List.forall_mem_cons.2 ⟨NR.vA _, fun _ h => absurd h List.not_mem_nil⟩) (NR.vA _) ?_
  refine lcall18 (by simp) 0 (Nat.le_refl _) ?_
  unfold vA
  rw [Val.cells]
  unfold lc18
  refine I1 tt ⟨?_⟩
  refine G1 F4 tt tt tt tt ⟨?_⟩
  refine lavc_loopM ms18_0 (fun m (x : Nat × Blk × AHeap) => m + x.1 = vs.length) (fun x => [(16, ivC x.1)]) (fun x => HV k t ns vs (vs.take x.1) x.2.1 x.2.2) vs.length (0, rZ, []) (by show vs.length + 0 = _; omega) ?_ rfl ?_
  · refine ALe.mk ?_
    simp only [ms18_0, putAll, blank, List.foldl_cons, List.foldl_nil, List.set_cons_succ, List.set_cons_zero, List.cons_append, List.nil_append, ALe0, true_or, or_true, and_true, true_and, eq_self, reduceCtorEq, false_or]
    try rfl
  rintro m ⟨j, X, gg⟩ hk
  simp only at hk ⊢
  try unfold ms18_0
  refine M1 tt ⟨?_⟩
  refine G1 F1 tt tt tt tt ⟨?_⟩
  refine cnd rfl (fun hc => ?_) (fun hc => ?_)
  · have hkl : j < vs.length := by omega
    have hat := cellsL_at vs j hkl
    have hmem := getD_mem vs j hkl
    have e3 := i64n ((j : Int) + 1) (j + 1) (by omega) (by omega)
    have htk : vs.take (j + 1) = vs.take j ++ [vs.getD j default] := by
      rw [List.take_add_one, List.getD_eq_getElem?_getD, List.getElem?_eq_getElem hkl]
      rfl
    obtain ⟨y, hy⟩ : ∃ y, vs.getD j default = y := ⟨_, rfl⟩
    rw [hy] at hat hmem htk
    have rp := ih y hmem (hall y hmem)
    obtain ⟨k', t', ns', vs'⟩ := y
    unfold vA at rp
    rw [Val.cells] at rp hat
    by_cases j0 : j = 0
    · subst j0
      have e : HV k t ns vs (vs.take 0) X gg = [rB k t ns vs, rZ, ⟨[ivC k, stA t, .vsl ns.length (strs ns) none, nlA], 0, true, 45⟩] := by rw [List.take_zero]; rfl
      rw [e]
      have hat0 : List.take 4 (cellsL vs) = [AV.v (Value.int .i64 k'), stA t', .vsl ns'.length (strs ns') none, .vsl vs'.length (cellsL vs') none] := by simpa using hat
      repeat (first
        | (with_reducible refine lops_step fun K hK => ?_; simp (disch := first | exact dch | fail) only [go_sem, Nat.reduceAdd, Nat.reduceSub, reduceIte, Nat.reduceEqDiff, Int.reduceToNat, Int.reduceBEq, Int.reduceBNe, hat0, hlx, e3, get_concat, set_concat, splice, List.take_succ_cons, List.take_zero, List.drop_succ_cons, List.drop_zero, List.drop_nil, List.cons_append, List.nil_append, List.append_nil, List.length_cons, List.length_nil, List.replicate_succ, List.replicate_zero, List.flatten_cons, List.flatten_nil, Nat.reduceMul, Nat.reduceAdd, Nat.reduceLeDiff]; (try (first | (refine And.intro (fun _ => ?_) (fun h => absurd h (by decide))) | (refine And.intro (fun h => absurd h (by decide)) (fun _ => ?_)))); (repeat (with_reducible refine And.intro acl ?_)); (first | (refine hK _ _ ?_) | (refine ⟨_, rfl, hK _ _ ?_⟩) | (refine Or.inl (hK _ _ ?_)) | (refine ⟨_, _, Or.inl (rp.go _), (by first | exact ⟨[], (List.append_nil _).symm⟩ | exact ⟨_, rfl⟩), hK _ _ ?_⟩) | (refine ⟨_, _, Or.inl (rp.go _), hK _ _ ?_⟩) | (refine ⟨_, _, Or.inl (rp.go _).weakQ, hK _ _ ?_⟩)); clear hK K)
        | (with_reducible refine lops_nil ?_)
        | (with_reducible first | refine lavc_reg ?_ | refine lavc_seq ?_ | refine lavc_block ?_ | refine lavc_skip ?_ | refine lavc_exit ?_ | refine lavc_ret ?_ | refine lavcR_round ?_)
        | (refine lavc_cond rfl (fun _ => ?_) (fun hc => absurd hc (by decide)))
        | (refine lavc_cond rfl (fun hc => absurd hc (by decide)) (fun _ => ?_))
        | (simp only [↓reduceIte, Nat.reduceEqDiff, reduceCtorEq]))
      have hc1 : cellsL [Val.mk k' t' ns' vs'] = [AV.v (Value.int .i64 k'), stA t', .vsl ns'.length (strs ns') none, .vsl vs'.length (cellsL vs') none] := by rw [cellsL, cellsL, Val.cells, List.append_nil]
      refine ⟨m - 1, (0 + 1, ⟨[AV.v (Value.int .i64 k'), stA t', .vsl ns'.length (strs ns') none, .vsl vs'.length (cellsL vs') none], 0, true, 26⟩, []), by omega, by show m - 1 + (0 + 1) = vs.length; omega, ?_, ?_⟩
      · try unfold ms18_0
        exact A0 tt
      · show _ = HV k t ns vs (vs.take (0 + 1)) _ _
        rw [htk, List.take_zero, List.nil_append, HV_cons _ _ _ _ _ (List.cons_ne_nil _ _), hc1]
        rfl
    · have hul : (vs.take j).length = j := by rw [List.length_take]; omega
      have hne : vs.take j ≠ [] := fun h => by rw [h] at hul; exact j0 hul.symm
      have hlu := cellsL_length (vs.take j)
      rw [hul] at hlu
      have htu : List.take (j * 4) (cellsL (vs.take j)) = cellsL (vs.take j) := List.take_of_length_le (by omega)
      have hxs : cellsL (vs.take (j + 1)) = cellsL (vs.take j) ++ [AV.v (Value.int .i64 k'), stA t', .vsl ns'.length (strs ns') none, .vsl vs'.length (cellsL vs') none] := by rw [htk, cellsL_append, cellsL, cellsL, Val.cells, List.append_nil]
      have hxs' := hxs.symm
      have en : j - 1 + 1 = j := by omega
      have hul2 : (vs.take (j + 1)).length = j + 1 := by rw [List.length_take]; omega
      have hne2 : vs.take (j + 1) ≠ [] := fun h => by rw [h] at hul2; cases hul2
      rw [HV_cons _ _ _ _ _ hne, hul]
      repeat (first
        | (with_reducible refine lops_step fun K hK => ?_; simp (disch := first | exact dch | fail) only [go_sem, Nat.reduceAdd, Nat.reduceSub, reduceIte, Nat.reduceEqDiff, Int.reduceToNat, Int.reduceBEq, Int.reduceBNe, hat, hlx, hlu, htu, hxs', en, e3, get_concat, set_concat, splice, List.take_succ_cons, List.take_zero, List.drop_succ_cons, List.drop_zero, List.drop_nil, List.cons_append, List.nil_append, List.append_nil, List.length_cons, List.length_nil, List.replicate_succ, List.replicate_zero, List.flatten_cons, List.flatten_nil, Nat.reduceMul, Nat.reduceAdd, Nat.reduceLeDiff]; (try (first | (refine And.intro (fun _ => ?_) (fun h => absurd h (by decide))) | (refine And.intro (fun h => absurd h (by decide)) (fun _ => ?_)))); (repeat (with_reducible refine And.intro acl ?_)); (first | (refine hK _ _ ?_) | (refine ⟨_, rfl, hK _ _ ?_⟩) | (refine Or.inl (hK _ _ ?_)) | (refine ⟨_, _, Or.inl (rp.go _), (by first | exact ⟨[], (List.append_nil _).symm⟩ | exact ⟨_, rfl⟩), hK _ _ ?_⟩) | (refine ⟨_, _, Or.inl (rp.go _), hK _ _ ?_⟩) | (refine ⟨_, _, Or.inl (rp.go _).weakQ, hK _ _ ?_⟩)); clear hK K)
        | (with_reducible refine lops_nil ?_)
        | (with_reducible first | refine lavc_reg ?_ | refine lavc_seq ?_ | refine lavc_block ?_ | refine lavc_skip ?_ | refine lavc_exit ?_ | refine lavc_ret ?_ | refine lavcR_round ?_)
        | (refine lavc_cond rfl (fun _ => ?_) (fun hc => absurd hc (by decide)))
        | (refine lavc_cond rfl (fun hc => absurd hc (by decide)) (fun _ => ?_))
        | (simp only [↓reduceIte, Nat.reduceEqDiff, reduceCtorEq]))
      refine ⟨m - 1, (j + 1, X, gg ++ [⟨[AV.v (Value.int .i64 k'), stA t', .vsl ns'.length (strs ns') none, .vsl vs'.length (cellsL vs') none], 0, true, 26⟩]), by omega, by show m - 1 + (j + 1) = vs.length; omega, ?_, ?_⟩
      · try unfold ms18_0
        exact A0 tt
      · show _ = HV k t ns vs (vs.take (j + 1)) X (gg ++ _)
        rw [HV_cons _ _ _ _ _ hne2, hul2]
        rfl
  · have hk2 : j = vs.length := by omega
    subst hk2
    rw [List.take_length]
    by_cases hv0 : vs = []
    · subst hv0
      have e : HV k t ns [] [] X gg = [rB k t ns [], rZ, ⟨[ivC k, stA t, .vsl ns.length (strs ns) none, nlA], 0, true, 45⟩] := rfl
      rw [e]
      refine G1 F4 tt tt tt tt ⟨?_⟩
      refine R1 tt ⟨?_⟩
      refine endV (.agg rfl fun j hj => ?_)
      match j, hj with
      | 0, _ => exact .nr (NR.v _)
      | 1, _ => exact .nr (NR.v _)
      | 2, _ => exact .nr (NR.vsl (NR.strs _))
      | 3, _ => exact .nil
    · rw [HV_cons _ _ _ _ _ hv0]
      refine G1 F4 tt tt tt tt ⟨?_⟩
      refine R1 tt ⟨?_⟩
      refine endV (.agg rfl fun j hj => ?_)
      match j, hj with
      | 0, _ => exact .nr (NR.v _)
      | 1, _ => exact .nr (NR.v _)
      | 2, _ => exact .nr (NR.vsl (NR.strs _))
      | 3, _ => exact slV vs (Nat.zero_le 4) rfl
end Go.Abs.S
namespace Go.Abs.S
attribute [local go_sem] lguard aopO aop aenv toAV tput aLoad aStore vcells aBin aNilI aUn aAlloc aBox aBuild aBSlice afill aConv isIntT aappZ aCap aArr aMM aMake aSlice bnd3 bnd aFldAddr aFld aIdxAddr aIdx aExt aLen aCopy aEq0 bAV aUb aapp aappQ agh acont List.getD_cons_zero List.getD_cons_succ List.set_cons_zero List.set_cons_succ List.getElem?_cons_zero List.getElem?_cons_succ List.length_cons List.length_nil List.map_cons List.map_nil ints_length if_true if_false Bool.false_eq_true true_and and_true eq_self ne_eq not_false_eq_true not_true_eq_false beq_self_eq_true Nat.zero_add Nat.add_zero Nat.mul_one Nat.zero_mul Int.toNat_natCast List.toList_toArray List.all_cons List.all_nil AV.one Value.oneCell' Bool.and_true Bool.true_and forall_const true_implies false_implies implies_true Option.map_some Option.map_none Option.isSome_some Option.isSome_none imp_self rdP_flat rdP_row splice_one ints_set ints_get List.append_nil List.cons_append List.nil_append List.getElem?_toArray List.drop_zero ints_drop ints_take List.take_of_length_le splice_all ints_one Option.some.injEq Option.getD_some List.length_replicate zArr List.map_replicate rep_ints splice_intsR List.length_set List.length_append List.flatten_replicate_singleton rep_slice rep_string rep_bool rep_iface List.replicate_zero if_pos if_neg List.mapM_cons List.mapM_nil Option.pure_def Option.bind_eq_bind Option.bind_some Bool.true_eq_false Bool.not_false Bool.not_true get_concat set_concat
open Go.Proofs
open Classical
set_option linter.unusedVariables false
set_option linter.unusedSimpArgs false
set_option maxRecDepth 100000
set_option maxHeartbeats 8000000
theorem rsame_v : ∀ a : Val, small a → ∀ b : Val, small b → PCall Tryd.prog glob 20 [vA a, vA b] (.v (.bool (eqV a b))) := Val.ind fun k t ns vs ih hs b hsb => by
  obtain ⟨k2, t2, n2, v2⟩ := b
  obtain ⟨h1, hall⟩ := hs.at
  obtain ⟨h2, hall2⟩ := hsb.at
  obtain ⟨_, hn, _, hv⟩ := h1
  obtain ⟨_, hn2, _, hv2⟩ := h2
  have hlx := cellsL_length vs
  have hnx := strs_length ns
  have hlx2 := cellsL_length v2
  have hnx2 := strs_length n2
  refine PCall.of ctx.nr (List.forall_mem_cons.2 ⟨NR.vA _, List.forall_mem_cons.2 ⟨NR.vA _, fun _ h => absurd h List.not_mem_nil⟩⟩) (NR.v _) ?_
  refine lcall20 (by simp) 0 (Nat.le_refl _) ?_
  obtain ⟨V, hV⟩ : ∃ V, eqV (.mk k t ns vs) (.mk k2 t2 n2 v2) = V := ⟨_, rfl⟩
  have hV2 : V = true ↔ (k = k2 ∧ t = t2 ∧ ns = n2 ∧ vs = v2) := by
    rw [← hV]
    unfold eqV
    rw [decide_eq_true_iff, Val.mk.injEq]
  have hno : ¬ (k = k2 ∧ t = t2 ∧ ns = n2 ∧ vs = v2) → V = false := fun h => by
    cases V
    · rfl
    · exact absurd (hV2.1 rfl) h
  rw [hV]
  unfold vA
  rw [Val.cells, Val.cells]
  unfold lc20
  refine I1 tt ⟨?_⟩
  by_cases ck : k = k2
  case neg =>
    rw [hno (fun h => ck h.1)]
    have q0 : ((k : Int) != k2) = true := by rw [bne_iff_ne, ne_eq]; omega
    refine G1 F4 (an q0 tt) tt tt tt ⟨?_⟩
    refine R1 tt ⟨?_⟩
    exact end0 (NR.v _) rfl
  have q0 : ((k : Int) != k2) = false := by rw [bne_eq_false_iff_eq]; omega
  by_cases ct : t = t2
  case neg =>
    rw [hno (fun h => ct h.2.1)]
    have q1 : (t.toList == t2.toList) = false := by rw [stA_beq, decide_eq_false ct]
    have q1d : decide (t.toList = t2.toList) = false := by rw [← q1]; exact (bs_same _ _).symm
    refine G1 F4 (an q0 (an q1 (an q1d tt))) tt tt tt ⟨?_⟩
    refine R1 tt ⟨?_⟩
    exact end0 (NR.v _) rfl
  have q1 : (t.toList == t2.toList) = true := by rw [stA_beq, decide_eq_true ct]
  have q1d : decide (t.toList = t2.toList) = true := by rw [← q1]; exact (bs_same _ _).symm
  by_cases cn : ns.length = n2.length
  case neg =>
    rw [hno (fun h => cn (by rw [h.2.2.1]))]
    have q2 : (((ns.length : Int) : Int) != (n2.length : Int)) = true := by rw [bne_iff_ne, ne_eq]; omega
    refine G1 F4 (an q0 (an q1 (an q2 (an q1d tt)))) tt tt tt ⟨?_⟩
    refine R1 tt ⟨?_⟩
    exact end0 (NR.v _) rfl
  have q2 : (((ns.length : Int) : Int) != (n2.length : Int)) = false := by rw [bne_eq_false_iff_eq]; omega
  by_cases cv : vs.length = v2.length
  case neg =>
    rw [hno (fun h => cv (by rw [h.2.2.2]))]
    have q3 : (((vs.length : Int) : Int) != (v2.length : Int)) = true := by rw [bne_iff_ne, ne_eq]; omega
    refine G1 F4 (an q0 (an q1 (an q2 (an q3 (an q1d tt))))) tt tt tt ⟨?_⟩
    refine R1 tt ⟨?_⟩
    exact end0 (NR.v _) rfl
  have q3 : (((vs.length : Int) : Int) != (v2.length : Int)) = false := by rw [bne_eq_false_iff_eq]; omega
  refine G1 F4 (an q0 (an q1 (an q2 (an q3 (an q1d tt))))) tt tt tt ⟨?_⟩
  refine lavc_loopM ms20_0 (fun m (j : Nat) => m + j = ns.length ∧ ((ns.drop j = n2.drop j) ↔ ns = n2)) (fun j => [(40, ivC j)]) (fun _ => [Blk.mk [ivC k, stA t, .vsl ns.length (strs ns) none, .vsl vs.length (cellsL vs) none] 0 true 45, Blk.mk [ivC k2, stA t2, .vsl n2.length (strs n2) none, .vsl v2.length (cellsL v2) none] 0 true 45]) ns.length 0 ⟨by omega, by simp⟩ ?_ rfl ?_
  · try unfold ms20_0
    refine A1 tt ⟨?_⟩
    rfl
  rintro m j ⟨hk, hi⟩
  try unfold ms20_0
  refine M1 tt ⟨?_⟩
  refine G1 F1 tt tt tt tt ⟨?_⟩
  refine cnd rfl (fun hc => ?_) (fun hc => ?_)
  · have hkl : j < ns.length := by omega
    have hat := strs_at ns j hkl
    have hat2 := strs_at n2 j (by omega)
    have e3 := i64n ((j : Int) + 1) (j + 1) (by omega) (by omega)
    have hd := drop_eq ns n2 cn ⟨#[]⟩ j hkl
    obtain ⟨y, hy⟩ : ∃ y, ns.getD j ⟨#[]⟩ = y := ⟨_, rfl⟩
    obtain ⟨z, hz⟩ : ∃ y, n2.getD j ⟨#[]⟩ = y := ⟨_, rfl⟩
    rw [hy] at hat hd
    rw [hz] at hat2 hd
    by_cases hyz : y = z
    · have q : (y.toList == z.toList) = true := by rw [stA_beq, decide_eq_true hyz]
      have qd : decide (y.toList = z.toList) = true := by rw [← q]; exact (bs_same _ _).symm
      refine G1 F4 (an hat (an hat2 (an q (an e3 (an qd tt))))) tt tt tt ⟨?_⟩
      refine ⟨m - 1, j + 1, by omega, ⟨by omega, ?_⟩, ?_, (by first | rfl | trivial)⟩
      · rw [← hi, hd]
        exact ⟨fun h => ⟨hyz, h⟩, fun h => h.2⟩
      · try unfold ms20_0
        exact A0 tt
    · have q : (y.toList == z.toList) = false := by rw [stA_beq, decide_eq_false hyz]
      have qd : decide (y.toList = z.toList) = false := by rw [← q]; exact (bs_same _ _).symm
      rw [hno (fun h => hyz (hd.1 (hi.2 h.2.2.1)).1)]
      refine G1 F4 (an hat (an hat2 (an q (an e3 (an qd tt))))) tt tt tt ⟨?_⟩
      refine R1 tt ⟨?_⟩
      exact end0 (NR.v _) rfl
  have hk2 : j = ns.length := by omega
  have hns : ns = n2 := hi.1 (by rw [hk2, List.drop_length, cn, List.drop_length])
  clear hi hk hk2 hc
  refine G1 F4 tt tt tt tt ⟨?_⟩
  refine lavc_loopM ms20_1 (fun m (j : Nat) => m + j = vs.length ∧ ((vs.drop j = v2.drop j) ↔ vs = v2)) (fun j => [(58, ivC j)]) (fun _ => [Blk.mk [ivC k, stA t, .vsl ns.length (strs ns) none, .vsl vs.length (cellsL vs) none] 0 true 45, Blk.mk [ivC k2, stA t2, .vsl n2.length (strs n2) none, .vsl v2.length (cellsL v2) none] 0 true 45]) vs.length 0 ⟨by omega, by simp⟩ ?_ rfl ?_
  · try unfold ms20_1
    refine A1 tt ⟨?_⟩
    rfl
  rintro m j ⟨hk, hi⟩
  try unfold ms20_1
  refine M1 tt ⟨?_⟩
  refine G1 F1 tt tt tt tt ⟨?_⟩
  refine cnd rfl (fun hc => ?_) (fun hc => ?_)
  · have hkl : j < vs.length := by omega
    have hat := cellsL_at vs j hkl
    have hat2 := cellsL_at v2 j (by omega)
    have e3 := i64n ((j : Int) + 1) (j + 1) (by omega) (by omega)
    have hd := drop_eq vs v2 cv default j hkl
    have hm1 := getD_mem vs j hkl
    have hm2 := getD_mem v2 j (by omega)
    obtain ⟨y, hy⟩ : ∃ y, vs.getD j default = y := ⟨_, rfl⟩
    obtain ⟨z, hz⟩ : ∃ y, v2.getD j default = y := ⟨_, rfl⟩
    rw [hy] at hat hd hm1
    rw [hz] at hat2 hd hm2
    have sp := ih y hm1 (hall y hm1) z (hall2 z hm2)
    obtain ⟨w, hw⟩ : ∃ w, eqV y z = w := ⟨_, rfl⟩
    have hw2 : w = true ↔ y = z := by rw [← hw]; unfold eqV; exact decide_eq_true_iff
    rw [hw] at sp
    obtain ⟨ky, ty, ny, vy⟩ := y
    obtain ⟨kz, tz, nz, vz⟩ := z
    unfold vA at sp
    rw [Val.cells] at hat hat2
    rw [Val.cells, Val.cells] at sp
    cases w with
    | true =>
      refine G1 F4 (an hat (an hat2 (an hlx (an hlx2 (an e3 tt))))) (an sp.go tt) tt tt ⟨?_⟩
      refine ⟨m - 1, j + 1, by omega, ⟨by omega, ?_⟩, ?_, (by first | rfl | trivial)⟩
      · rw [← hi, hd]
        exact ⟨fun h => ⟨hw2.1 rfl, h⟩, fun h => h.2⟩
      · try unfold ms20_1
        exact A0 tt
    | false =>
      rw [hno (fun h => by have := hw2.2 (hd.1 (hi.2 h.2.2.2)).1; cases this)]
      refine G1 F4 (an hat (an hat2 (an hlx (an hlx2 (an e3 tt))))) (an sp.go tt) tt tt ⟨?_⟩
      refine R1 tt ⟨?_⟩
      exact end0 (NR.v _) rfl
  · have hk2 : j = vs.length := by omega
    have hvs : vs = v2 := hi.1 (by rw [hk2, List.drop_length, cv, List.drop_length])
    refine G1 F4 tt tt tt tt ⟨?_⟩
    refine R1 tt ⟨?_⟩
    exact end0 (NR.v _) (by rw [hV2.2 ⟨ck, ct, hns, hvs⟩])
end Go.Abs.S
namespace Go.Abs.S
attribute [local go_sem] lguard aopO aop aenv toAV tput aLoad aStore vcells aBin aNilI aUn aAlloc aBox aBuild aBSlice afill aConv isIntT aappZ aCap aArr aMM aMake aSlice bnd3 bnd aFldAddr aFld aIdxAddr aIdx aExt aLen aCopy aEq0 bAV aUb aapp aappQ agh acont List.getD_cons_zero List.getD_cons_succ List.set_cons_zero List.set_cons_succ List.getElem?_cons_zero List.getElem?_cons_succ List.length_cons List.length_nil List.map_cons List.map_nil ints_length if_true if_false Bool.false_eq_true true_and and_true eq_self ne_eq not_false_eq_true not_true_eq_false beq_self_eq_true Nat.zero_add Nat.add_zero Nat.mul_one Nat.zero_mul Int.toNat_natCast List.toList_toArray List.all_cons List.all_nil AV.one Value.oneCell' Bool.and_true Bool.true_and forall_const true_implies false_implies implies_true Option.map_some Option.map_none Option.isSome_some Option.isSome_none imp_self rdP_flat rdP_row splice_one ints_set ints_get List.append_nil List.cons_append List.nil_append List.getElem?_toArray List.drop_zero ints_drop ints_take List.take_of_length_le splice_all ints_one Option.some.injEq Option.getD_some List.length_replicate zArr List.map_replicate rep_ints splice_intsR List.length_set List.length_append List.flatten_replicate_singleton rep_slice rep_string rep_bool rep_iface List.replicate_zero if_pos if_neg List.mapM_cons List.mapM_nil Option.pure_def Option.bind_eq_bind Option.bind_some Bool.true_eq_false Bool.not_false Bool.not_true get_concat set_concat
open Go.Proofs
open Classical
set_option linter.unusedVariables false
set_option linter.unusedSimpArgs false
set_option maxRecDepth 100000
set_option maxHeartbeats 8000000
theorem same_law (a b : Val) : PCall Tryd.prog glob 6 [vA a, vA b] (.v (.bool true)) := by
  refine PCall.of ctx.nr (List.forall_mem_cons.2 ⟨NR.vA _, List.forall_mem_cons.2 ⟨NR.vA _, fun _ h => absurd h List.not_mem_nil⟩⟩) (NR.v _) ?_
  refine lcall6 (by simp) 0 (Nat.le_refl _) ?_
  have aw := awake_p
  have fa := few_p a 12 (by decide) (by decide)
  have fb := few_p b 12 (by decide) (by decide)
  have ha : fewV a 12 = true → small a := fun h => (few_tiny a 12 h).small
  have hb : fewV b 12 = true → small b := fun h => (few_tiny b 12 h).small
  have sp := fun h1 h2 => same_v a (ha h1) b (hb h2)
  have sq := fun h1 => same_v a (ha h1) a (ha h1)
  have rp := fun h1 h2 => rsame_v a (ha h1) b (hb h2)
  have ra := fun h1 => ref_p a (ha h1)
  have rb := fun h1 => ref_p b (hb h1)
  have eaa : eqV a a = true := by unfold eqV; exact decide_eq_true rfl
  rw [eaa] at sq
  obtain ⟨w, hw⟩ : ∃ w, eqV a b = w := ⟨_, rfl⟩
  rw [hw] at sp rp
  obtain ⟨u, hu⟩ : ∃ w, fewV a 12 = w := ⟨_, rfl⟩
  obtain ⟨v, hv⟩ : ∃ w, fewV b 12 = w := ⟨_, rfl⟩
  rw [hu] at fa sp sq rp ra
  rw [hv] at fb sp rp rb
  clear ha hb hw hu hv eaa
  obtain ⟨k, t, ns, vs⟩ := a
  obtain ⟨k2, t2, n2, v2⟩ := b
  unfold vA at fa fb sp sq rp ra rb ⊢
  rw [Val.cells] at fa fb sp sq rp ra rb ⊢
  try rw [Val.cells] at fb
  try rw [Val.cells] at sp
  try rw [Val.cells] at rp
  try rw [Val.cells] at rb
  rw [Val.cells]
  unfold lc6
  refine I1 tt ⟨?_⟩
  cases u with
  | false =>
    refine G1 F4 tt (an aw.go (an fa.go tt)) tt tt ⟨?_⟩
    refine R1 tt ⟨?_⟩
    exact end0 (NR.v _) rfl
  | true =>
    cases v with
    | false =>
      refine G1 F4 tt (an aw.go (an fa.go (an fb.go tt))) tt tt ⟨?_⟩
      refine R1 tt ⟨?_⟩
      exact end0 (NR.v _) rfl
    | true =>
      have sp := sp rfl rfl
      have sq := sq rfl
      have rp := rp rfl rfl
      have ra := ra rfl
      have rb := rb rfl
      cases w with
      | true =>
        refine G1 F4 tt (an aw.go (an fa.go (an fb.go (an sp.go (an sq.go (an rp.go (an ra.go (an rb.go tt)))))))) tt tt ⟨?_⟩
        refine R1 tt ⟨?_⟩
        exact end0 (NR.v _) rfl
      | false =>
        refine G1 F4 tt (an aw.go (an fa.go (an fb.go (an sp.go (an sq.go (an rp.go (an ra.go (an rb.go tt)))))))) tt tt ⟨?_⟩
        refine R1 tt ⟨?_⟩
        exact end0 (NR.v _) rfl
end Go.Abs.S
