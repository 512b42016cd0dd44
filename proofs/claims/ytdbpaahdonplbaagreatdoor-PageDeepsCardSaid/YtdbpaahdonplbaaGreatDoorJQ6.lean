/- page: a list's, or a page's, parts. page: a page's parts. -/
import Derived.Test.YtdbpaahdonplbaaGreatDoorJQ5
import Derived.Test.YtdbpaahdonplbaaGreatDoorJQ4
namespace Go.Abs.S
attribute [local go_sem] lguard aopO aop aenv toAV tput aLoad aStore vcells aBin aNilI aUn aAlloc aBox aBuild aBSlice afill aConv isIntT aappZ aCap aArr aMM aMake aSlice bnd3 bnd aFldAddr aFld aIdxAddr aIdx aExt aLen aCopy aEq0 bAV aUb aapp aappQ agh acont List.getD_cons_zero List.getD_cons_succ List.set_cons_zero List.set_cons_succ List.getElem?_cons_zero List.getElem?_cons_succ List.length_cons List.length_nil List.map_cons List.map_nil ints_length if_true if_false Bool.false_eq_true true_and and_true eq_self ne_eq not_false_eq_true not_true_eq_false beq_self_eq_true Nat.zero_add Nat.add_zero Nat.mul_one Nat.zero_mul Int.toNat_natCast List.toList_toArray List.all_cons List.all_nil AV.one Value.oneCell' Bool.and_true Bool.true_and forall_const true_implies false_implies implies_true Option.map_some Option.map_none Option.isSome_some Option.isSome_none imp_self rdP_flat rdP_row splice_one ints_set ints_get List.append_nil List.cons_append List.nil_append List.getElem?_toArray List.drop_zero ints_drop ints_take List.take_of_length_le splice_all ints_one Option.some.injEq Option.getD_some List.length_replicate zArr List.map_replicate rep_ints splice_intsR List.length_set List.length_append List.flatten_replicate_singleton rep_slice rep_string rep_bool rep_iface List.replicate_zero if_pos if_neg List.mapM_cons List.mapM_nil Option.pure_def Option.bind_eq_bind Option.bind_some Bool.true_eq_false Bool.not_false Bool.not_true get_concat set_concat
open Go.Proofs
set_option linter.unusedVariables false
set_option linter.unusedSimpArgs false
set_option maxRecDepth 100000
set_option maxHeartbeats 8000000
theorem end1V {H : AHeap} {r r0 : AV} {k k' : Blk} (h : View 1 (k :: H) r r0) (hn : ∀ c ∈ k'.cells, NR c) (hk : k = k') : Fin 1 (k :: H) r r0 [k'] := by
  subst hk
  refine ⟨h, by simp, fun b k1 hb h1 => ?_, rfl⟩
  have : b = 0 := by omega
  subst this
  cases h1
  exact hn
theorem view4z {H : AHeap} {lo : Nat} (k : Int) (t : ByteArray) : View lo H (.agg [ivC k, stA t, nlA, nlA]) (vA (.mk k t [] [])) := by
  unfold vA
  rw [Val.cells]
  refine .agg rfl (fun j hj => ?_)
  match j, hj with
  | 0, _ => exact .nr (NR.v _)
  | 1, _ => exact .nr (NR.v _)
  | 2, _ => exact .nil
  | 3, _ => exact .nil
theorem view4l {H : AHeap} {lo : Nat} (k : Int) (t : ByteArray) (vs : List Val) (b ver : Nat) (hlo : lo ≤ b) (hb : H[b]? = some ⟨cellsL vs, ver, true, 26⟩) (n : Nat) (hn : n = vs.length) : View lo H (.agg [ivC k, stA t, nlA, .sl b ver 0 n n 4 false]) (vA (.mk k t [] vs)) := by
  subst hn
  have hl := cellsL_length vs
  unfold vA
  rw [Val.cells]
  refine .agg rfl (fun j hj => ?_)
  match j, hj with
  | 0, _ => exact .nr (NR.v _)
  | 1, _ => exact .nr (NR.v _)
  | 2, _ => exact .nil
  | 3, _ =>
    have := View.sl (x := false) (lo := lo) (off := 0) (len := vs.length) (cap := vs.length) (sz := 4) hlo hb rfl rfl (Nat.le_refl _) (by show 0 + vs.length * 4 ≤ (cellsL vs).length; omega) (cellsL_nr vs)
    simp only [List.drop_zero] at this
    rw [List.take_of_length_le (by omega)] at this
    exact this
abbrev zB : Blk := ⟨[ivC 0, stA ⟨#[]⟩, nlA, nlA], 0, true, 26⟩
/-- Memory while a list is taken. -/
def HL (vs : List Val) (s : St) : AHeap := if vs = [] then [RB s, ⟨[ivC 5, stA ⟨#[]⟩, nlA, nlA], 0, true, 26⟩, zB]
  else [RB s, ⟨[ivC 5, stA ⟨#[]⟩, nlA, .sl 3 (vs.length - 1) 0 vs.length vs.length 4 false], 0, true, 26⟩, zB, ⟨cellsL vs, vs.length - 1, true, 26⟩]
theorem HL_nil (s : St) : HL [] s = [RB s, ⟨[ivC 5, stA ⟨#[]⟩, nlA, nlA], 0, true, 26⟩, zB] := rfl
theorem HL_cons (vs : List Val) (h : vs ≠ []) (s : St) : HL vs s = [RB s, ⟨[ivC 5, stA ⟨#[]⟩, nlA, .sl 3 (vs.length - 1) 0 vs.length vs.length 4 false], 0, true, 26⟩, zB, ⟨cellsL vs, vs.length - 1, true, 26⟩] := if_neg h
theorem list_m (V : St → Val × St) (d : Int) (hd : 1 ≤ d ∧ d ≤ 100) (hz : ∀ s, (V s).2.1.length ≤ s.1.length) (hVf : ∀ s : St, s.2 ≠ 0 → (V s).2.2 ≠ 0)
    (hV : ∀ s : St, s.1.length ≤ 1000000 → (s.2 ≠ 0 → s.1 = []) → MCall Tryz.prog glob 19 [ivC (d + 1)] (RB s) (vA (V s).1) (RB (V s).2)) (s : St) (hs : s.1.length ≤ 1000000) :
    MCall Tryz.prog glob 34 [.agg [ivC 5, stA ⟨#[]⟩, nlA, nlA], stA ⟨#[93]⟩, ivC d] (RB s) (vA (partsR V 5 [93] s).1) (RB (partsR V 5 [93] s).2) := by
  have hargs : ∀ x ∈ [AV.agg [ivC 5, stA ⟨#[]⟩, nlA, nlA], stA ⟨#[93]⟩, ivC d], NR x := by
    refine List.forall_mem_cons.2 ⟨NR.agg ?_, nrs⟩
    exact nrs
  refine MCall.of ctx.nr rfl rfl hargs (NR.vA _) (RB.nr _) (RB.nr _) ?_
  refine lcall34 (by simp) 1 (Nat.le_refl _) ?_
  unfold lc34
  refine I1 tt ⟨?_⟩
  obtain ⟨W, hW⟩ : ∃ W, partsR V 5 [93] s = W := ⟨_, rfl⟩
  rw [hW]
  unfold partsR at hW
  have b1 := blanks_m s
  have z1 := blanks_len s
  obtain ⟨s1, hs1⟩ : ∃ x, blanksP s = x := ⟨_, rfl⟩
  rw [hs1] at b1 z1 hW
  obtain ⟨q, hq⟩ : ∃ q, ([93] : List UInt8).isPrefixOf s1.1 = q := ⟨_, rfl⟩
  rw [hq] at hW
  have t1 : MCall Tryz.prog glob 32 [stA ⟨#[93]⟩] (RB s1) (.v (.bool q)) (RB (if q = true then takeP [93] s1 else s1)) := takeT [93] s1 q hq
  cases q with
  | true =>
    rw [if_pos rfl] at hW t1
    subst hW
    refine G1 F4 tt tt (an b1.go (an t1.go tt)) tt ⟨?_⟩
    refine R1 tt ⟨?_⟩
    exact end1V (view4z _ _) (RB.nr _) rfl
  | false =>
    rw [if_neg (by decide)] at hW t1
    refine G1 F4 tt tt (an b1.go (an t1.go tt)) tt ⟨?_⟩
    refine lavc_loopM ms34_0 (fun m (x : Nat × List Val × St) => m = x.1 ∧ x.2.1.length + x.1 = 67 ∧ x.2.1.length ≤ 65 ∧ x.2.2.1.length ≤ 1000000 ∧ (x.2.2.2 = 0 → x.2.1.length ≤ 64) ∧ partsP V 5 [93] x.1 [] x.2.1 x.2.2 = W) (fun _ => []) (fun x => HL x.2.1 x.2.2) 67 (67, [], s1) ⟨rfl, rfl, by simp, by show s1.1.length ≤ 1000000; omega, fun _ => by simp, hW⟩ ?_ rfl ?_
    · try unfold ms34_0
      exact A0 tt
    rintro m ⟨k, vs, l, f⟩ ⟨rfl, hk, h65, hl, h64, hi⟩
    simp only at hk h65 hl h64 hi ⊢
    obtain ⟨k, rfl⟩ : ∃ k', m = k' + 1 := ⟨m - 1, by omega⟩
    rw [partsP] at hi
    by_cases hf : f ≠ 0
    · rw [if_pos hf] at hi
      subst hi
      have q0 : ((f : Int) == 0) = false := by rw [beq_eq_false_iff_ne, ne_eq]; omega
      try unfold ms34_0
      refine M1 tt ⟨?_⟩
      by_cases hv : vs = []
      · subst hv
        unfold HL
        rw [if_pos rfl]
        refine G1 F4 (an q0 tt) tt tt tt ⟨?_⟩
        refine R1 tt ⟨?_⟩
        exact end1V (view4z _ _) (RB.nr _) rfl
      · rw [HL_cons vs hv]
        refine G1 F4 (an q0 tt) tt tt tt ⟨?_⟩
        refine R1 tt ⟨?_⟩
        exact end1V (view4z _ _) (RB.nr _) rfl
    have hf : f = 0 := Classical.byContradiction hf
    subst hf
    have h64 := h64 rfl
    rw [if_neg (by simp)] at hi
    simp only [show ((5 : Int) = 6) = False from by decide, if_false] at hi
    have ed := i64z (d + 1) (by omega)
    have g11 := give_m 11 (l, 0)
    obtain ⟨s2, hs2⟩ : ∃ x, (if 64 ≤ vs.length then giveP 11 (l, 0) else (l, 0)) = x := ⟨_, rfl⟩
    have z2 : s2.1.length ≤ 1000000 := by
      rw [← hs2]
      split
      · exact Nat.le_trans (give_len _ _) hl
      · exact hl
    rw [hs2] at hi
    have ok2 : s2.2 ≠ 0 → s2.1 = [] := by
      rw [← hs2]
      split
      · exact fun _ => rfl
      · exact fun h => absurd rfl h
    have vm := hV s2 z2 ok2
    have zv := hz s2
    obtain ⟨⟨x, s3⟩, hx⟩ : ∃ y, V s2 = y := ⟨_, rfl⟩
    rw [hx] at vm zv hi
    simp only at vm zv hi
    have b3 := blanks_m s3
    have zb3 := blanks_len s3
    obtain ⟨s4, hs4⟩ : ∃ y, blanksP s3 = y := ⟨_, rfl⟩
    rw [hs4] at b3 zb3 hi
    obtain ⟨q, hq⟩ : ∃ q, ([93] : List UInt8).isPrefixOf s4.1 = q := ⟨_, rfl⟩
    have t4 : MCall Tryz.prog glob 32 [stA ⟨#[93]⟩] (RB s4) (.v (.bool q)) (RB (if q = true then takeP [93] s4 else s4)) := takeT [93] s4 q hq
    obtain ⟨e, he⟩ : ∃ q, ([44] : List UInt8).isPrefixOf s4.1 = q := ⟨_, rfl⟩
    have t5 : MCall Tryz.prog glob 32 [stA ⟨#[44]⟩] (RB s4) (.v (.bool e)) (RB (if e = true then takeP [44] s4 else s4)) := takeT [44] s4 e he
    have g5 := give_m 2 s4
    rw [hq, he] at hi
    have xl := x.cells_length
    have hxs : cellsL (vs ++ [x]) = cellsL vs ++ x.cells := by rw [cellsL_append, cellsL, cellsL, List.append_nil]
    have hvl : (vs ++ [x]).length = vs.length + 1 := by simp
    have hln := cellsL_length vs
    have vf := hVf s2
    rw [hx] at vf
    have f4 : s4.2 = s3.2 := by rw [← hs4]; rfl
    have keep : ∀ s7 : St, (s7 = takeP [44] s4 ∨ s7 = giveP 2 s4) → s7.2 = 0 → (vs ++ [x]).length ≤ 64 := fun s7 h7 h0 => by
      rw [hvl]
      by_cases h : 64 ≤ vs.length
      · exfalso
        rw [if_pos h] at hs2
        have h1 : s2.2 ≠ 0 := by rw [← hs2]; show (11 : Int) ≠ 0; decide
        have h2 := vf h1
        rcases h7 with rfl | rfl
        · exact h2 (f4.symm.trans h0)
        · have h3 : s4.2 ≠ 0 := fun h => h2 (f4.symm.trans h)
          unfold giveP at h0
          rw [if_neg h3] at h0
          exact h3 h0
      · omega
    have k7 : ∀ s7 : St, (s7 = takeP [44] s4 ∨ s7 = giveP 2 s4) → s7.1.length ≤ 1000000 := fun s7 h7 => by
      rcases h7 with rfl | rfl
      · have := take_len [44] s4
        omega
      · have := give_len 2 s4
        omega
    have hne : vs ++ [x] ≠ [] := by simp
    obtain ⟨kx, tx, nx, vx⟩ := x
    rw [show (Val.mk kx tx nx vx).cells = [ivC kx, stA tx, .vsl nx.length (strs nx) none, .vsl vx.length (cellsL vx) none] from by rw [Val.cells]] at hxs
    unfold vA at vm
    rw [Val.cells] at vm
    --%cases
    --%cases
    by_cases hv : vs = []
    · subst hv
      rw [if_neg (by decide)] at hs2
      subst hs2
      try unfold ms34_0
      refine M1 tt ⟨?_⟩
      rw [HL_nil]
      refine G1 F4 tt tt tt tt ⟨?_⟩
      refine lavc_lateq [.ptr 1 0 3, nlA, .ptr 0 0 0, ivC d, ivC (d + 1)] ?_ ?_ <;> simp only [lputs, o1_d, o2_d, o3_d, o4_d, tput, List.set_cons_succ, List.set_cons_zero]
      · (simp only [lfreesAt]; repeat (first | exact trivial | (refine And.intro (by unfold lfreeAt; unfold aopO; simp (disch := first | exact dch | fail) only [go_sem, Nat.reduceAdd, Nat.reduceSub, reduceIte, Nat.reduceEqDiff, Int.reduceToNat, Int.reduceBEq, Int.reduceBNe, ed]; (repeat (with_reducible refine And.intro acl ?_)); first | exact ⟨rfl, fun d h => by cases h; rfl⟩ | exact fun d h => by cases h; rfl | exact Or.inr ⟨rfl, fun d h => by cases h; rfl⟩ | exact Or.inr (fun d h => by cases h; rfl) | exact Or.inl ⟨rfl, fun d h => by cases h; rfl⟩) ?_)))
      · refine G1 F3 tt tt tt tt ⟨?_⟩
        repeat (first
          | ((with_reducible refine lopsF_step ?_ fun K hK => ?_); (case _ => (simp only [lfreesAt]; repeat (first | exact trivial | (refine And.intro (by unfold lfreeAt; unfold aopO; simp (disch := first | exact dch | fail) only [go_sem, Nat.reduceAdd, Nat.reduceSub, reduceIte, Nat.reduceEqDiff, Int.reduceToNat, Int.reduceBEq, Int.reduceBNe, ed, splice, List.take_succ_cons, List.take_zero, List.drop_succ_cons, List.drop_zero, List.drop_nil, List.cons_append, List.nil_append, List.append_nil, List.length_cons, List.length_nil, List.replicate_succ, List.replicate_zero, List.flatten_cons, List.flatten_nil, Nat.reduceMul, Nat.reduceAdd, Nat.reduceLeDiff]; (repeat (with_reducible refine And.intro acl ?_)); first | exact ⟨rfl, fun d h => by cases h; rfl⟩ | exact fun d h => by cases h; rfl | exact Or.inr ⟨rfl, fun d h => by cases h; rfl⟩ | exact Or.inr (fun d h => by cases h; rfl) | exact Or.inl ⟨rfl, fun d h => by cases h; rfl⟩) ?_)))); with_reducible skip; simp (disch := first | exact dch | fail) only [go_sem, Nat.reduceAdd, Nat.reduceSub, reduceIte, Nat.reduceEqDiff, Int.reduceToNat, Int.reduceBEq, Int.reduceBNe, ed, splice, List.take_succ_cons, List.take_zero, List.drop_succ_cons, List.drop_zero, List.drop_nil, List.cons_append, List.nil_append, List.append_nil, List.length_cons, List.length_nil, List.replicate_succ, List.replicate_zero, List.flatten_cons, List.flatten_nil, Nat.reduceMul, Nat.reduceAdd, Nat.reduceLeDiff]; (repeat (with_reducible refine And.intro acl ?_)); (first | (refine hK _ _ ?_) | (refine ⟨_, rfl, hK _ _ ?_⟩) | (refine Or.inr (hK _ _ ?_)) | (refine Or.inr ⟨rfl, hK _ _ ?_⟩) | (refine ⟨_, _, Or.inl (vm.go _ _ rfl), (by first | exact ⟨[], (List.append_nil _).symm⟩ | exact ⟨_, rfl⟩), hK _ _ ?_⟩) | (refine ⟨_, _, Or.inl (vm.go _ _ rfl), hK _ _ ?_⟩) | (refine ⟨_, _, Or.inl (vm.go _ _ rfl).weakQ, hK _ _ ?_⟩)); clear hK K)
          | ((with_reducible refine lopsF_nil ?_ ?_); (case _ => (simp only [lfreesAt]; repeat (first | exact trivial | (refine And.intro (by unfold lfreeAt; unfold aopO; simp (disch := first | exact dch | fail) only [go_sem, Nat.reduceAdd, Nat.reduceSub, reduceIte, Nat.reduceEqDiff, Int.reduceToNat, Int.reduceBEq, Int.reduceBNe, ed, splice, List.take_succ_cons, List.take_zero, List.drop_succ_cons, List.drop_zero, List.drop_nil, List.cons_append, List.nil_append, List.append_nil, List.length_cons, List.length_nil, List.replicate_succ, List.replicate_zero, List.flatten_cons, List.flatten_nil, Nat.reduceMul, Nat.reduceAdd, Nat.reduceLeDiff]; (repeat (with_reducible refine And.intro acl ?_)); first | exact ⟨rfl, fun d h => by cases h; rfl⟩ | exact fun d h => by cases h; rfl | exact Or.inr ⟨rfl, fun d h => by cases h; rfl⟩ | exact Or.inr (fun d h => by cases h; rfl) | exact Or.inl ⟨rfl, fun d h => by cases h; rfl⟩) ?_)))))
          | (with_reducible first | refine lavc_reg ?_ | refine lavc_seq ?_ | refine lavc_block ?_ | refine lavc_skip ?_ | refine lavc_exit ?_ | refine lavc_ret ?_ | refine lavcR_round ?_)
          | (simp only [↓reduceIte, Nat.reduceEqDiff, reduceCtorEq]))
        cases q with
        | true =>
          rw [if_pos rfl] at hi t4
          subst hi
          refine G1 F4 tt tt (an b3.go (an t4.go tt)) tt ⟨?_⟩
          refine R1 tt ⟨?_⟩
          exact end1V (view4l 5 ⟨#[]⟩ ([Val.mk kx tx nx vx]) 3 0 (by decide) (rfl) _ rfl) (RB.nr _) rfl
        | false =>
          rw [if_neg (by decide)] at hi t4
          cases e with
          | true =>
            rw [if_pos rfl] at hi t5
            refine G1 F4 tt tt (an b3.go (an t4.go (an t5.go tt))) tt ⟨?_⟩
            refine ⟨k, (k, [] ++ [Val.mk kx tx nx vx], takeP [44] s4), by omega, ⟨rfl, by show ([] ++ [Val.mk kx tx nx vx]).length + k = 67; omega, by show ([] ++ [Val.mk kx tx nx vx]).length ≤ 65; omega, k7 _ (.inl rfl), keep _ (.inl rfl), hi⟩, ?_, ?_⟩
            · try unfold ms34_0
              exact A0 tt
            · show _ = HL ([] ++ [Val.mk kx tx nx vx]) (takeP [44] s4)
              rw [HL_cons _ hne, hvl]
              rfl
          | false =>
            rw [if_neg (by decide)] at hi t5
            refine G1 F4 tt tt (an b3.go (an t4.go (an t5.go (an g5.go tt)))) tt ⟨?_⟩
            refine ⟨k, (k, [] ++ [Val.mk kx tx nx vx], giveP 2 s4), by omega, ⟨rfl, by show ([] ++ [Val.mk kx tx nx vx]).length + k = 67; omega, by show ([] ++ [Val.mk kx tx nx vx]).length ≤ 65; omega, k7 _ (.inr rfl), keep _ (.inr rfl), hi⟩, ?_, ?_⟩
            · try unfold ms34_0
              exact A0 tt
            · show _ = HL ([] ++ [Val.mk kx tx nx vx]) (giveP 2 s4)
              rw [HL_cons _ hne, hvl]
              rfl
    have htk : List.take (vs.length * 4) (cellsL vs) = cellsL vs := List.take_of_length_le (by omega)
    have hxs' := hxs.symm
    have hn0 : 0 < vs.length := List.length_pos_iff.2 hv
    have en : vs.length - 1 + 1 = vs.length := by omega
    by_cases h6 : 64 ≤ vs.length
    · rw [if_pos h6] at hs2
      subst hs2
      have d64 : decide ((vs.length : Int) ≥ 64) = true := by rw [decide_eq_true_eq]; omega
      try unfold ms34_0
      refine M1 tt ⟨?_⟩
      rw [HL_cons vs hv]
      refine G1 F4 (an d64 tt) tt (an g11.go tt) tt ⟨?_⟩
      refine lavc_lateq [.ptr 1 0 3, .sl 3 (vs.length - 1) 0 vs.length vs.length 4 false, .ptr 0 0 0, ivC d, ivC (d + 1)] ?_ ?_ <;> simp only [lputs, o1_d, o2_d, o3_d, o4_d, tput, List.set_cons_succ, List.set_cons_zero]
      · (simp only [lfreesAt]; repeat (first | exact trivial | (refine And.intro (by unfold lfreeAt; unfold aopO; simp (disch := first | exact dch | fail) only [go_sem, Nat.reduceAdd, Nat.reduceSub, reduceIte, Nat.reduceEqDiff, Int.reduceToNat, Int.reduceBEq, Int.reduceBNe, ed]; (repeat (with_reducible refine And.intro acl ?_)); first | exact ⟨rfl, fun d h => by cases h; rfl⟩ | exact fun d h => by cases h; rfl | exact Or.inr ⟨rfl, fun d h => by cases h; rfl⟩ | exact Or.inr (fun d h => by cases h; rfl) | exact Or.inl ⟨rfl, fun d h => by cases h; rfl⟩) ?_)))
      · refine G1 F3 tt tt tt tt ⟨?_⟩
        repeat (first
          | ((with_reducible refine lopsF_step ?_ fun K hK => ?_); (case _ => (simp only [lfreesAt]; repeat (first | exact trivial | (refine And.intro (by unfold lfreeAt; unfold aopO; simp (disch := first | exact dch | fail) only [go_sem, Nat.reduceAdd, Nat.reduceSub, reduceIte, Nat.reduceEqDiff, Int.reduceToNat, Int.reduceBEq, Int.reduceBNe, ed, splice, List.take_succ_cons, List.take_zero, List.drop_succ_cons, List.drop_zero, List.drop_nil, List.cons_append, List.nil_append, List.append_nil, List.length_cons, List.length_nil, List.replicate_succ, List.replicate_zero, List.flatten_cons, List.flatten_nil, Nat.reduceMul, Nat.reduceAdd, Nat.reduceLeDiff]; (repeat (with_reducible refine And.intro acl ?_)); first | exact ⟨rfl, fun d h => by cases h; rfl⟩ | exact fun d h => by cases h; rfl | exact Or.inr ⟨rfl, fun d h => by cases h; rfl⟩ | exact Or.inr (fun d h => by cases h; rfl) | exact Or.inl ⟨rfl, fun d h => by cases h; rfl⟩) ?_)))); with_reducible skip; simp (disch := first | exact dch | fail) only [go_sem, Nat.reduceAdd, Nat.reduceSub, reduceIte, Nat.reduceEqDiff, Int.reduceToNat, Int.reduceBEq, Int.reduceBNe, ed, splice, List.take_succ_cons, List.take_zero, List.drop_succ_cons, List.drop_zero, List.drop_nil, List.cons_append, List.nil_append, List.append_nil, List.length_cons, List.length_nil, List.replicate_succ, List.replicate_zero, List.flatten_cons, List.flatten_nil, Nat.reduceMul, Nat.reduceAdd, Nat.reduceLeDiff]; (repeat (with_reducible refine And.intro acl ?_)); (first | (refine hK _ _ ?_) | (refine ⟨_, rfl, hK _ _ ?_⟩) | (refine Or.inr (hK _ _ ?_)) | (refine Or.inr ⟨rfl, hK _ _ ?_⟩) | (refine ⟨_, _, Or.inl (vm.go _ _ rfl), (by first | exact ⟨[], (List.append_nil _).symm⟩ | exact ⟨_, rfl⟩), hK _ _ ?_⟩) | (refine ⟨_, _, Or.inl (vm.go _ _ rfl), hK _ _ ?_⟩) | (refine ⟨_, _, Or.inl (vm.go _ _ rfl).weakQ, hK _ _ ?_⟩)); clear hK K)
          | ((with_reducible refine lopsF_nil ?_ ?_); (case _ => (simp only [lfreesAt]; repeat (first | exact trivial | (refine And.intro (by unfold lfreeAt; unfold aopO; simp (disch := first | exact dch | fail) only [go_sem, Nat.reduceAdd, Nat.reduceSub, reduceIte, Nat.reduceEqDiff, Int.reduceToNat, Int.reduceBEq, Int.reduceBNe, ed, splice, List.take_succ_cons, List.take_zero, List.drop_succ_cons, List.drop_zero, List.drop_nil, List.cons_append, List.nil_append, List.append_nil, List.length_cons, List.length_nil, List.replicate_succ, List.replicate_zero, List.flatten_cons, List.flatten_nil, Nat.reduceMul, Nat.reduceAdd, Nat.reduceLeDiff]; (repeat (with_reducible refine And.intro acl ?_)); first | exact ⟨rfl, fun d h => by cases h; rfl⟩ | exact fun d h => by cases h; rfl | exact Or.inr ⟨rfl, fun d h => by cases h; rfl⟩ | exact Or.inr (fun d h => by cases h; rfl) | exact Or.inl ⟨rfl, fun d h => by cases h; rfl⟩) ?_)))))
          | (with_reducible first | refine lavc_reg ?_ | refine lavc_seq ?_ | refine lavc_block ?_ | refine lavc_skip ?_ | refine lavc_exit ?_ | refine lavc_ret ?_ | refine lavcR_round ?_)
          | (simp only [↓reduceIte, Nat.reduceEqDiff, reduceCtorEq]))
        cases q with
        | true =>
          rw [if_pos rfl] at hi t4
          subst hi
          refine G1 F4 (an htk (an hln (an hxs' (an en tt)))) tt (an b3.go (an t4.go tt)) tt ⟨?_⟩
          refine R1 tt ⟨?_⟩
          exact end1V (view4l 5 ⟨#[]⟩ (vs ++ [Val.mk kx tx nx vx]) 3 vs.length (by decide) rfl _ hvl.symm) (RB.nr _) rfl
        | false =>
          rw [if_neg (by decide)] at hi t4
          cases e with
          | true =>
            rw [if_pos rfl] at hi t5
            refine G1 F4 (an htk (an hln (an hxs' (an en tt)))) tt (an b3.go (an t4.go (an t5.go tt))) tt ⟨?_⟩
            refine ⟨k, (k, vs ++ [Val.mk kx tx nx vx], takeP [44] s4), by omega, ⟨rfl, by show (vs ++ [Val.mk kx tx nx vx]).length + k = 67; omega, by show (vs ++ [Val.mk kx tx nx vx]).length ≤ 65; omega, k7 _ (.inl rfl), keep _ (.inl rfl), hi⟩, ?_, ?_⟩
            · try unfold ms34_0
              exact A0 tt
            · show _ = HL (vs ++ [Val.mk kx tx nx vx]) (takeP [44] s4)
              rw [HL_cons _ hne, hvl]
              rfl
          | false =>
            rw [if_neg (by decide)] at hi t5
            refine G1 F4 (an htk (an hln (an hxs' (an en tt)))) tt (an b3.go (an t4.go (an t5.go (an g5.go tt)))) tt ⟨?_⟩
            refine ⟨k, (k, vs ++ [Val.mk kx tx nx vx], giveP 2 s4), by omega, ⟨rfl, by show (vs ++ [Val.mk kx tx nx vx]).length + k = 67; omega, by show (vs ++ [Val.mk kx tx nx vx]).length ≤ 65; omega, k7 _ (.inr rfl), keep _ (.inr rfl), hi⟩, ?_, ?_⟩
            · try unfold ms34_0
              exact A0 tt
            · show _ = HL (vs ++ [Val.mk kx tx nx vx]) (giveP 2 s4)
              rw [HL_cons _ hne, hvl]
              rfl
    · rw [if_neg h6] at hs2
      subst hs2
      have d64 : decide ((vs.length : Int) ≥ 64) = false := by rw [decide_eq_false_iff_not]; omega
      try unfold ms34_0
      refine M1 tt ⟨?_⟩
      rw [HL_cons vs hv]
      refine G1 F4 (an d64 tt) tt tt tt ⟨?_⟩
      refine lavc_lateq [.ptr 1 0 3, .sl 3 (vs.length - 1) 0 vs.length vs.length 4 false, .ptr 0 0 0, ivC d, ivC (d + 1)] ?_ ?_ <;> simp only [lputs, o1_d, o2_d, o3_d, o4_d, tput, List.set_cons_succ, List.set_cons_zero]
      · (simp only [lfreesAt]; repeat (first | exact trivial | (refine And.intro (by unfold lfreeAt; unfold aopO; simp (disch := first | exact dch | fail) only [go_sem, Nat.reduceAdd, Nat.reduceSub, reduceIte, Nat.reduceEqDiff, Int.reduceToNat, Int.reduceBEq, Int.reduceBNe, ed]; (repeat (with_reducible refine And.intro acl ?_)); first | exact ⟨rfl, fun d h => by cases h; rfl⟩ | exact fun d h => by cases h; rfl | exact Or.inr ⟨rfl, fun d h => by cases h; rfl⟩ | exact Or.inr (fun d h => by cases h; rfl) | exact Or.inl ⟨rfl, fun d h => by cases h; rfl⟩) ?_)))
      · refine G1 F3 tt tt tt tt ⟨?_⟩
        repeat (first
          | ((with_reducible refine lopsF_step ?_ fun K hK => ?_); (case _ => (simp only [lfreesAt]; repeat (first | exact trivial | (refine And.intro (by unfold lfreeAt; unfold aopO; simp (disch := first | exact dch | fail) only [go_sem, Nat.reduceAdd, Nat.reduceSub, reduceIte, Nat.reduceEqDiff, Int.reduceToNat, Int.reduceBEq, Int.reduceBNe, ed, splice, List.take_succ_cons, List.take_zero, List.drop_succ_cons, List.drop_zero, List.drop_nil, List.cons_append, List.nil_append, List.append_nil, List.length_cons, List.length_nil, List.replicate_succ, List.replicate_zero, List.flatten_cons, List.flatten_nil, Nat.reduceMul, Nat.reduceAdd, Nat.reduceLeDiff]; (repeat (with_reducible refine And.intro acl ?_)); first | exact ⟨rfl, fun d h => by cases h; rfl⟩ | exact fun d h => by cases h; rfl | exact Or.inr ⟨rfl, fun d h => by cases h; rfl⟩ | exact Or.inr (fun d h => by cases h; rfl) | exact Or.inl ⟨rfl, fun d h => by cases h; rfl⟩) ?_)))); with_reducible skip; simp (disch := first | exact dch | fail) only [go_sem, Nat.reduceAdd, Nat.reduceSub, reduceIte, Nat.reduceEqDiff, Int.reduceToNat, Int.reduceBEq, Int.reduceBNe, ed, splice, List.take_succ_cons, List.take_zero, List.drop_succ_cons, List.drop_zero, List.drop_nil, List.cons_append, List.nil_append, List.append_nil, List.length_cons, List.length_nil, List.replicate_succ, List.replicate_zero, List.flatten_cons, List.flatten_nil, Nat.reduceMul, Nat.reduceAdd, Nat.reduceLeDiff]; (repeat (with_reducible refine And.intro acl ?_)); (first | (refine hK _ _ ?_) | (refine ⟨_, rfl, hK _ _ ?_⟩) | (refine Or.inr (hK _ _ ?_)) | (refine Or.inr ⟨rfl, hK _ _ ?_⟩) | (refine ⟨_, _, Or.inl (vm.go _ _ rfl), (by first | exact ⟨[], (List.append_nil _).symm⟩ | exact ⟨_, rfl⟩), hK _ _ ?_⟩) | (refine ⟨_, _, Or.inl (vm.go _ _ rfl), hK _ _ ?_⟩) | (refine ⟨_, _, Or.inl (vm.go _ _ rfl).weakQ, hK _ _ ?_⟩)); clear hK K)
          | ((with_reducible refine lopsF_nil ?_ ?_); (case _ => (simp only [lfreesAt]; repeat (first | exact trivial | (refine And.intro (by unfold lfreeAt; unfold aopO; simp (disch := first | exact dch | fail) only [go_sem, Nat.reduceAdd, Nat.reduceSub, reduceIte, Nat.reduceEqDiff, Int.reduceToNat, Int.reduceBEq, Int.reduceBNe, ed, splice, List.take_succ_cons, List.take_zero, List.drop_succ_cons, List.drop_zero, List.drop_nil, List.cons_append, List.nil_append, List.append_nil, List.length_cons, List.length_nil, List.replicate_succ, List.replicate_zero, List.flatten_cons, List.flatten_nil, Nat.reduceMul, Nat.reduceAdd, Nat.reduceLeDiff]; (repeat (with_reducible refine And.intro acl ?_)); first | exact ⟨rfl, fun d h => by cases h; rfl⟩ | exact fun d h => by cases h; rfl | exact Or.inr ⟨rfl, fun d h => by cases h; rfl⟩ | exact Or.inr (fun d h => by cases h; rfl) | exact Or.inl ⟨rfl, fun d h => by cases h; rfl⟩) ?_)))))
          | (with_reducible first | refine lavc_reg ?_ | refine lavc_seq ?_ | refine lavc_block ?_ | refine lavc_skip ?_ | refine lavc_exit ?_ | refine lavc_ret ?_ | refine lavcR_round ?_)
          | (simp only [↓reduceIte, Nat.reduceEqDiff, reduceCtorEq]))
        cases q with
        | true =>
          rw [if_pos rfl] at hi t4
          subst hi
          refine G1 F4 (an htk (an hln (an hxs' (an en tt)))) tt (an b3.go (an t4.go tt)) tt ⟨?_⟩
          refine R1 tt ⟨?_⟩
          exact end1V (view4l 5 ⟨#[]⟩ (vs ++ [Val.mk kx tx nx vx]) 3 vs.length (by decide) rfl _ hvl.symm) (RB.nr _) rfl
        | false =>
          rw [if_neg (by decide)] at hi t4
          cases e with
          | true =>
            rw [if_pos rfl] at hi t5
            refine G1 F4 (an htk (an hln (an hxs' (an en tt)))) tt (an b3.go (an t4.go (an t5.go tt))) tt ⟨?_⟩
            refine ⟨k, (k, vs ++ [Val.mk kx tx nx vx], takeP [44] s4), by omega, ⟨rfl, by show (vs ++ [Val.mk kx tx nx vx]).length + k = 67; omega, by show (vs ++ [Val.mk kx tx nx vx]).length ≤ 65; omega, k7 _ (.inl rfl), keep _ (.inl rfl), hi⟩, ?_, ?_⟩
            · try unfold ms34_0
              exact A0 tt
            · show _ = HL (vs ++ [Val.mk kx tx nx vx]) (takeP [44] s4)
              rw [HL_cons _ hne, hvl]
              rfl
          | false =>
            rw [if_neg (by decide)] at hi t5
            refine G1 F4 (an htk (an hln (an hxs' (an en tt)))) tt (an b3.go (an t4.go (an t5.go (an g5.go tt)))) tt ⟨?_⟩
            refine ⟨k, (k, vs ++ [Val.mk kx tx nx vx], giveP 2 s4), by omega, ⟨rfl, by show (vs ++ [Val.mk kx tx nx vx]).length + k = 67; omega, by show (vs ++ [Val.mk kx tx nx vx]).length ≤ 65; omega, k7 _ (.inr rfl), keep _ (.inr rfl), hi⟩, ?_, ?_⟩
            · try unfold ms34_0
              exact A0 tt
            · show _ = HL (vs ++ [Val.mk kx tx nx vx]) (giveP 2 s4)
              rw [HL_cons _ hne, hvl]
              rfl
end Go.Abs.S
namespace Go.Abs.S
attribute [local go_sem] lguard aopO aop aenv toAV tput aLoad aStore vcells aBin aNilI aUn aAlloc aBox aBuild aBSlice afill aConv isIntT aappZ aCap aArr aMM aMake aSlice bnd3 bnd aFldAddr aFld aIdxAddr aIdx aExt aLen aCopy aEq0 bAV aUb aapp aappQ agh acont List.getD_cons_zero List.getD_cons_succ List.set_cons_zero List.set_cons_succ List.getElem?_cons_zero List.getElem?_cons_succ List.length_cons List.length_nil List.map_cons List.map_nil ints_length if_true if_false Bool.false_eq_true true_and and_true eq_self ne_eq not_false_eq_true not_true_eq_false beq_self_eq_true Nat.zero_add Nat.add_zero Nat.mul_one Nat.zero_mul Int.toNat_natCast List.toList_toArray List.all_cons List.all_nil AV.one Value.oneCell' Bool.and_true Bool.true_and forall_const true_implies false_implies implies_true Option.map_some Option.map_none Option.isSome_some Option.isSome_none imp_self rdP_flat rdP_row splice_one ints_set ints_get List.append_nil List.cons_append List.nil_append List.getElem?_toArray List.drop_zero ints_drop ints_take List.take_of_length_le splice_all ints_one Option.some.injEq Option.getD_some List.length_replicate zArr List.map_replicate rep_ints splice_intsR List.length_set List.length_append List.flatten_replicate_singleton rep_slice rep_string rep_bool rep_iface List.replicate_zero if_pos if_neg List.mapM_cons List.mapM_nil Option.pure_def Option.bind_eq_bind Option.bind_some Bool.true_eq_false Bool.not_false Bool.not_true get_concat set_concat
open Go.Proofs
set_option linter.unusedVariables false
set_option linter.unusedSimpArgs false
set_option maxRecDepth 100000
set_option maxHeartbeats 8000000
theorem RB.fl (s : St) : ∀ c ∈ (RB s).cells, Flat c := by
  intro c hc
  simp only [List.mem_cons, List.not_mem_nil, or_false] at hc
  rcases hc with rfl | rfl <;> exact Flat.v _
theorem give_fail (e : Int) (s : St) (h : s.2 ≠ 0) : (giveP e s).2 ≠ 0 := by
  unfold giveP
  rw [if_neg h]
  exact h
theorem text_fail (s : St) (h : s.2 ≠ 0) : (textR s).2 = s := by
  unfold textR
  rw [textP, if_pos h]
theorem name_len (l : List ByteArray) (s : St) : (nameP l s).2.1.length ≤ s.1.length := by
  unfold nameP
  simp only
  have h1 := blanks_len s
  have h2 : ∀ s : St, (if [34].isPrefixOf s.1 = true then takeP [34] s else giveP 2 s).1.length ≤ s.1.length := fun s => by
    split
    · exact take_len _ _
    · exact give_len _ _
  have h3 : ∀ s : St, (if [58].isPrefixOf s.1 = true then takeP [58] s else giveP 2 s).1.length ≤ s.1.length := fun s => by
    split
    · exact take_len _ _
    · exact give_len _ _
  have h4 : ∀ (s : St) (p : Prop) [Decidable p], (if p then giveP 10 s else s).1.length ≤ s.1.length := fun s p _ => by
    split
    · exact give_len _ _
    · exact Nat.le_refl _
  refine Nat.le_trans (h3 _) (Nat.le_trans (blanks_len _) (Nat.le_trans (h4 _ _) (Nat.le_trans (text_len _ _ _) (Nat.le_trans (h2 _) h1))))
theorem name_fail (l : List ByteArray) (s : St) (h : s.2 ≠ 0) : (nameP l s).2.2 ≠ 0 := by
  unfold nameP
  simp only
  have h1 : ∀ (e : Int) (p : List UInt8) (s : St), s.2 ≠ 0 → (if p.isPrefixOf s.1 = true then takeP p s else giveP e s).2 ≠ 0 := fun e p s h => by
    split
    · exact h
    · exact give_fail _ _ h
  have h4 : ∀ (s : St) (p : Prop) [Decidable p], s.2 ≠ 0 → (if p then giveP 10 s else s).2 ≠ 0 := fun s p _ h => by
    split
    · exact give_fail _ _ h
    · exact h
  refine h1 _ _ _ (h4 _ _ ?_)
  rw [text_fail _ (h1 2 [34] (blanksP s) h)]
  exact h1 2 [34] (blanksP s) h
/-- Where something is wrong, nothing is left. -/
def Ok (s : St) : Prop := s.2 ≠ 0 → s.1 = []
theorem give_ok (e : Int) (s : St) (h : Ok s) : Ok (giveP e s) := by
  unfold giveP
  split
  · exact fun _ => rfl
  · exact h
theorem blanks_ok (s : St) (h : Ok s) : Ok (blanksP s) := fun hf => by
  have := h hf
  unfold blanksP
  rw [this]
  rfl
theorem take_ok (p : List UInt8) (s : St) (h : Ok s) : Ok (takeP p s) := fun hf => by
  have := h hf
  unfold takeP
  rw [this]
  split
  · simp
  · rfl
theorem esc_ok (s : St) (h : Ok s) : Ok (escP s).2 := by
  obtain ⟨l, f⟩ := s
  cases l with
  | nil => exact give_ok 2 ([], f) h
  | cons c r =>
    have hf : f = 0 := Classical.byContradiction fun hf => by
      have : c :: r = [] := h hf
      cases this
    subst hf
    simp only [escP]
    split
    · exact fun h => absurd rfl h
    split
    · exact fun _ => rfl
    split
    · exact fun _ => rfl
    · exact fun h => absurd rfl h
theorem text_ok : ∀ (n : Nat) (acc : List UInt8) (s : St), Ok s → Ok (textP n acc s).2
  | 0, acc, s, h => h
  | n + 1, acc, s, h => by
    rw [textP]
    split
    · exact h
    · rename_i hf
      have hf : s.2 = 0 := Classical.byContradiction hf
      split
      · exact give_ok _ _ h
      · have hz : ∀ l : List UInt8, Ok (l, s.2) := fun l hl => absurd hf hl
        simp only
        split
        · exact text_ok n _ _ (hz _)
        split
        · exact hz _
        split
        · exact text_ok n _ _ (esc_ok _ (hz _))
        · exact text_ok n _ _ (give_ok _ _ (hz _))
theorem name_ok (l : List ByteArray) (s : St) (h : Ok s) : Ok (nameP l s).2 := by
  unfold nameP
  simp only
  have h1 : ∀ (e : Int) (p : List UInt8) (s : St), Ok s → Ok (if p.isPrefixOf s.1 = true then takeP p s else giveP e s) := fun e p s h => by
    split
    · exact take_ok _ _ h
    · exact give_ok _ _ h
  have h4 : ∀ (s : St) (p : Prop) [Decidable p], Ok s → Ok (if p then giveP 10 s else s) := fun s p _ h => by
    split
    · exact give_ok _ _ h
    · exact h
  exact h1 _ _ _ (blanks_ok _ (h4 _ _ (text_ok _ _ _ (h1 _ _ _ (blanks_ok _ h)))))
theorem MCall.les {P : Program} {G : Glob} {n : FuncId} {args args' : List AV} {k k' : Blk} {r : AV} (h : MCall P G n args' k r k') (hl : AvLs args args') : MCall P G n args k r k' := fun H b hb =>
  ⟨(h H b hb).1, fun σ w us h1 h2 rel => (h H b hb).2 σ w us (by rw [h1]; simp [hl.length]) (fun j hj => by
    cases j with
    | zero => exact h2 0 (by simp)
    | succ j =>
      have hj' : j < args.length := by rw [hl.length]; simpa using hj
      have := hl.get j hj' _ _ _ (h2 (j + 1) (by simpa using hj'))
      simpa using this) rel⟩
theorem view6 {H : AHeap} {lo : Nat} (t : ByteArray) (ns : List ByteArray) (vs : List Val) (b v1 c v2 : Nat) (hlo : lo ≤ b) (hlc : lo ≤ c) (hb : H[b]? = some ⟨strs ns, v1, true, 9⟩) (hc : H[c]? = some ⟨cellsL vs, v2, true, 26⟩) (n : Nat) (hn : n = vs.length) (hn2 : n = ns.length) :
    View lo H (.agg [ivC 6, stA t, .sl b v1 0 n n 1 false, .sl c v2 0 n n 4 false]) (vA (.mk 6 t ns vs)) := by
  have hl := cellsL_length vs
  have hs := strs_length ns
  unfold vA
  rw [Val.cells, ← hn, ← hn2]
  refine .agg rfl (fun j hj => ?_)
  match j, hj with
  | 0, _ => exact .nr (NR.v _)
  | 1, _ => exact .nr (NR.v _)
  | 2, _ =>
    have := View.sl (x := false) (lo := lo) (off := 0) (len := n) (cap := n) (sz := 1) hlo hb rfl rfl (Nat.le_refl _) (by show 0 + n * 1 ≤ (strs ns).length; omega) (NR.strs ns)
    simp only [List.drop_zero] at this
    rw [List.take_of_length_le (by omega)] at this
    exact this
  | 3, _ =>
    have := View.sl (x := false) (lo := lo) (off := 0) (len := n) (cap := n) (sz := 4) hlc hc rfl rfl (Nat.le_refl _) (by show 0 + n * 4 ≤ (cellsL vs).length; omega) (cellsL_nr vs)
    simp only [List.drop_zero] at this
    rw [List.take_of_length_le (by omega)] at this
    exact this
/-- Memory while a page is taken. -/
def HQ (ns : List ByteArray) (vs : List Val) (s : St) : AHeap := if vs = [] then [RB s, ⟨[ivC 6, stA ⟨#[]⟩, nlA, nlA], 0, true, 26⟩, zB]
  else [RB s, ⟨[ivC 6, stA ⟨#[]⟩, .sl 3 (vs.length - 1) 0 vs.length vs.length 1 false, .sl 4 (vs.length - 1) 0 vs.length vs.length 4 false], 0, true, 26⟩, zB, ⟨strs ns, vs.length - 1, true, 9⟩, ⟨cellsL vs, vs.length - 1, true, 26⟩]
theorem HQ_nil (s : St) : HQ [] [] s = [RB s, ⟨[ivC 6, stA ⟨#[]⟩, nlA, nlA], 0, true, 26⟩, zB] := rfl
theorem HQ_cons (ns : List ByteArray) (vs : List Val) (h : vs ≠ []) (s : St) : HQ ns vs s = [RB s, ⟨[ivC 6, stA ⟨#[]⟩, .sl 3 (vs.length - 1) 0 vs.length vs.length 1 false, .sl 4 (vs.length - 1) 0 vs.length vs.length 4 false], 0, true, 26⟩, zB, ⟨strs ns, vs.length - 1, true, 9⟩, ⟨cellsL vs, vs.length - 1, true, 26⟩] := if_neg h
theorem page_m (V : St → Val × St) (d : Int) (hd : 1 ≤ d ∧ d ≤ 100) (hz : ∀ s, (V s).2.1.length ≤ s.1.length) (hVf : ∀ s : St, s.2 ≠ 0 → (V s).2.2 ≠ 0)
    (hV : ∀ s : St, s.1.length ≤ 1000000 → (s.2 ≠ 0 → s.1 = []) → MCall Tryz.prog glob 19 [ivC (d + 1)] (RB s) (vA (V s).1) (RB (V s).2)) (s : St) (hs : s.1.length ≤ 1000000) :
    MCall Tryz.prog glob 34 [.agg [ivC 6, stA ⟨#[]⟩, nlA, nlA], stA ⟨#[125]⟩, ivC d] (RB s) (vA (partsR V 6 [125] s).1) (RB (partsR V 6 [125] s).2) := by
  have hargs : ∀ x ∈ [AV.agg [ivC 6, stA ⟨#[]⟩, nlA, nlA], stA ⟨#[125]⟩, ivC d], NR x := by
    refine List.forall_mem_cons.2 ⟨NR.agg ?_, nrs⟩
    exact nrs
  refine MCall.of ctx.nr rfl rfl hargs (NR.vA _) (RB.nr _) (RB.nr _) ?_
  refine lcall34 (by simp) 1 (Nat.le_refl _) ?_
  unfold lc34
  refine I1 tt ⟨?_⟩
  obtain ⟨W, hW⟩ : ∃ W, partsR V 6 [125] s = W := ⟨_, rfl⟩
  rw [hW]
  unfold partsR at hW
  have b1 := blanks_m s
  have z1 := blanks_len s
  obtain ⟨s1, hs1⟩ : ∃ x, blanksP s = x := ⟨_, rfl⟩
  rw [hs1] at b1 z1 hW
  obtain ⟨q, hq⟩ : ∃ q, ([125] : List UInt8).isPrefixOf s1.1 = q := ⟨_, rfl⟩
  rw [hq] at hW
  have t1 : MCall Tryz.prog glob 32 [stA ⟨#[125]⟩] (RB s1) (.v (.bool q)) (RB (if q = true then takeP [125] s1 else s1)) := takeT [125] s1 q hq
  cases q with
  | true =>
    rw [if_pos rfl] at hW t1
    subst hW
    refine G1 F4 tt tt (an b1.go (an t1.go tt)) tt ⟨?_⟩
    refine R1 tt ⟨?_⟩
    exact end1V (view4z _ _) (RB.nr _) rfl
  | false =>
    rw [if_neg (by decide)] at hW t1
    refine G1 F4 tt tt (an b1.go (an t1.go tt)) tt ⟨?_⟩
    refine lavc_loopM ms34_0 (fun m (x : Nat × List ByteArray × List Val × St) => m = x.1 ∧ x.2.2.1.length + x.1 = 67 ∧ x.2.1.length = x.2.2.1.length ∧ x.2.2.1.length ≤ 65 ∧ x.2.2.2.1.length ≤ 1000000 ∧ (x.2.2.2.2 = 0 → x.2.2.1.length ≤ 64) ∧ partsP V 6 [125] x.1 x.2.1 x.2.2.1 x.2.2.2 = W) (fun _ => []) (fun x => HQ x.2.1 x.2.2.1 x.2.2.2) 67 (67, [], [], s1) ⟨rfl, rfl, rfl, by simp, by show s1.1.length ≤ 1000000; omega, fun _ => by simp, hW⟩ ?_ rfl ?_
    · try unfold ms34_0
      exact A0 tt
    rintro m ⟨k, ns, vs, l, f⟩ ⟨rfl, hk, hnn, h65, hl, h64, hi⟩
    simp only at hk hnn h65 hl h64 hi ⊢
    obtain ⟨k, rfl⟩ : ∃ k', m = k' + 1 := ⟨m - 1, by omega⟩
    rw [partsP] at hi
    by_cases hf : f ≠ 0
    · rw [if_pos hf] at hi
      subst hi
      have q0 : ((f : Int) == 0) = false := by rw [beq_eq_false_iff_ne, ne_eq]; omega
      try unfold ms34_0
      refine M1 tt ⟨?_⟩
      by_cases hv : vs = []
      · subst hv
        obtain rfl : ns = [] := List.eq_nil_of_length_eq_zero hnn
        rw [HQ_nil]
        refine G1 F4 (an q0 tt) tt tt tt ⟨?_⟩
        refine R1 tt ⟨?_⟩
        exact end1V (view4z _ _) (RB.nr _) rfl
      · rw [HQ_cons ns vs hv]
        refine G1 F4 (an q0 tt) tt tt tt ⟨?_⟩
        refine R1 tt ⟨?_⟩
        exact end1V (view4z _ _) (RB.nr _) rfl
    have hf : f = 0 := Classical.byContradiction hf
    subst hf
    have h64 := h64 rfl
    rw [if_neg (by simp)] at hi
    simp only [eq_self, if_true] at hi
    have ed := i64z (d + 1) (by omega)
    have g11 := give_m 11 (l, 0)
    obtain ⟨s2, hs2⟩ : ∃ x, (if 64 ≤ vs.length then giveP 11 (l, 0) else (l, 0)) = x := ⟨_, rfl⟩
    have z2 : s2.1.length ≤ 1000000 := by
      rw [← hs2]
      split
      · exact Nat.le_trans (give_len _ _) hl
      · exact hl
    rw [hs2] at hi
    obtain ⟨⟨nm, s2'⟩, hnm⟩ : ∃ y, nameP ns s2 = y := ⟨_, rfl⟩
    have nz := name_len ns s2
    have nf := name_fail ns s2
    have ok2 : s2.2 ≠ 0 → s2.1 = [] := by
      rw [← hs2]
      split
      · exact fun _ => rfl
      · exact fun h => absurd rfl h
    have nok := name_ok ns s2 ok2
    rw [hnm] at hi nz nf nok
    simp only at hi nz nf nok
    have nmm := fun c => name_m ns c (by omega) s2 z2
    rw [hnm] at nmm
    simp only at nmm
    have vm := hV s2' (by omega) nok
    have zv := hz s2'
    obtain ⟨⟨x, s3⟩, hx⟩ : ∃ y, V s2' = y := ⟨_, rfl⟩
    rw [hx] at vm zv hi
    simp only at vm zv hi
    have b3 := blanks_m s3
    have zb3 := blanks_len s3
    obtain ⟨s4, hs4⟩ : ∃ y, blanksP s3 = y := ⟨_, rfl⟩
    rw [hs4] at b3 zb3 hi
    obtain ⟨q, hq⟩ : ∃ q, ([125] : List UInt8).isPrefixOf s4.1 = q := ⟨_, rfl⟩
    have t4 : MCall Tryz.prog glob 32 [stA ⟨#[125]⟩] (RB s4) (.v (.bool q)) (RB (if q = true then takeP [125] s4 else s4)) := takeT [125] s4 q hq
    obtain ⟨e, he⟩ : ∃ q, ([44] : List UInt8).isPrefixOf s4.1 = q := ⟨_, rfl⟩
    have t5 : MCall Tryz.prog glob 32 [stA ⟨#[44]⟩] (RB s4) (.v (.bool e)) (RB (if e = true then takeP [44] s4 else s4)) := takeT [44] s4 e he
    have g5 := give_m 2 s4
    rw [hq, he] at hi
    have xl := x.cells_length
    have hxs : cellsL (vs ++ [x]) = cellsL vs ++ x.cells := by rw [cellsL_append, cellsL, cellsL, List.append_nil]
    have hvl : (vs ++ [x]).length = vs.length + 1 := by simp
    have hln := cellsL_length vs
    have vf := hVf s2'
    rw [hx] at vf
    have f4 : s4.2 = s3.2 := by rw [← hs4]; rfl
    have keep : ∀ s7 : St, (s7 = takeP [44] s4 ∨ s7 = giveP 2 s4) → s7.2 = 0 → (vs ++ [x]).length ≤ 64 := fun s7 h7 h0 => by
      rw [hvl]
      by_cases h : 64 ≤ vs.length
      · exfalso
        rw [if_pos h] at hs2
        have h1 : s2.2 ≠ 0 := by rw [← hs2]; show (11 : Int) ≠ 0; decide
        have h2 := vf (nf h1)
        rcases h7 with rfl | rfl
        · exact h2 (f4.symm.trans h0)
        · have h3 : s4.2 ≠ 0 := fun h => h2 (f4.symm.trans h)
          unfold giveP at h0
          rw [if_neg h3] at h0
          exact h3 h0
      · omega
    have k7 : ∀ s7 : St, (s7 = takeP [44] s4 ∨ s7 = giveP 2 s4) → s7.1.length ≤ 1000000 := fun s7 h7 => by
      rcases h7 with rfl | rfl
      · have := take_len [44] s4
        omega
      · have := give_len 2 s4
        omega
    have hne : vs ++ [x] ≠ [] := by simp
    obtain ⟨kx, tx, nx, vx⟩ := x
    rw [show (Val.mk kx tx nx vx).cells = [ivC kx, stA tx, .vsl nx.length (strs nx) none, .vsl vx.length (cellsL vx) none] from by rw [Val.cells]] at hxs
    unfold vA at vm
    rw [Val.cells] at vm
    --%cases
    --%cases
    have hnl : (ns ++ [nm]).length = ns.length + 1 := by simp
    by_cases hv : vs = []
    · subst hv
      obtain rfl : ns = [] := List.eq_nil_of_length_eq_zero hnn
      rw [if_neg (by decide)] at hs2
      subst hs2
      have nn : MCall Tryz.prog glob 47 [nlA] (RB (l, 0)) (.v (.string nm)) (RB s2') := MCall.les (nmm none) ⟨AvLe.nil, trivial⟩
      try unfold ms34_0
      refine M1 tt ⟨?_⟩
      rw [HQ_nil]
      refine G1 F4 tt tt tt tt ⟨?_⟩
      refine lavc_lateq [.ptr 1 0 2, nlA, .ptr 0 0 0, .ptr 1 0 2, nlA] ?_ ?_ <;> simp only [lputs, o1_d, o2_d, o3_d, o4_d, tput, List.set_cons_succ, List.set_cons_zero]
      · (simp only [lfreesAt]; repeat (first | exact trivial | (refine And.intro (by unfold lfreeAt; unfold aopO; simp (disch := first | exact dch | fail) only [go_sem, Nat.reduceAdd, Nat.reduceSub, reduceIte, Nat.reduceEqDiff, Int.reduceToNat, Int.reduceBEq, Int.reduceBNe]; (repeat (with_reducible refine And.intro acl ?_)); first | exact ⟨rfl, fun d h => by cases h; rfl⟩ | exact fun d h => by cases h; rfl | exact Or.inr ⟨rfl, fun d h => by cases h; rfl⟩ | exact Or.inr (fun d h => by cases h; rfl) | exact Or.inl ⟨rfl, fun d h => by cases h; rfl⟩) ?_)))
      · refine G1 F3 tt tt tt tt ⟨?_⟩
        repeat (first
          | ((with_reducible refine lopsF_step ?_ fun K hK => ?_); (case _ => (simp only [lfreesAt]; repeat (first | exact trivial | (refine And.intro (by unfold lfreeAt; unfold aopO; simp (disch := first | exact dch | fail) only [go_sem, Nat.reduceAdd, Nat.reduceSub, reduceIte, Nat.reduceEqDiff, Int.reduceToNat, Int.reduceBEq, Int.reduceBNe, splice, List.take_succ_cons, List.take_zero, List.drop_succ_cons, List.drop_zero, List.drop_nil, List.cons_append, List.nil_append, List.append_nil, List.length_cons, List.length_nil, List.replicate_succ, List.replicate_zero, List.flatten_cons, List.flatten_nil, Nat.reduceMul, Nat.reduceAdd, Nat.reduceLeDiff]; (repeat (with_reducible refine And.intro acl ?_)); first | exact ⟨rfl, fun d h => by cases h; rfl⟩ | exact fun d h => by cases h; rfl | exact Or.inr ⟨rfl, fun d h => by cases h; rfl⟩ | exact Or.inr (fun d h => by cases h; rfl) | exact Or.inl ⟨rfl, fun d h => by cases h; rfl⟩) ?_)))); with_reducible skip; simp (disch := first | exact dch | fail) only [go_sem, Nat.reduceAdd, Nat.reduceSub, reduceIte, Nat.reduceEqDiff, Int.reduceToNat, Int.reduceBEq, Int.reduceBNe, splice, List.take_succ_cons, List.take_zero, List.drop_succ_cons, List.drop_zero, List.drop_nil, List.cons_append, List.nil_append, List.append_nil, List.length_cons, List.length_nil, List.replicate_succ, List.replicate_zero, List.flatten_cons, List.flatten_nil, Nat.reduceMul, Nat.reduceAdd, Nat.reduceLeDiff]; (repeat (with_reducible refine And.intro acl ?_)); (first | (refine hK _ _ ?_) | (refine ⟨_, rfl, hK _ _ ?_⟩) | (refine Or.inr (hK _ _ ?_)) | (refine Or.inr ⟨rfl, hK _ _ ?_⟩) | (refine ⟨_, _, Or.inl (nn.go _ _ rfl), (by first | exact ⟨[], (List.append_nil _).symm⟩ | exact ⟨_, rfl⟩), hK _ _ ?_⟩) | (refine ⟨_, _, Or.inl (nn.go _ _ rfl), hK _ _ ?_⟩) | (refine ⟨_, _, Or.inl (nn.go _ _ rfl).weakQ, hK _ _ ?_⟩)); clear hK K)
          | ((with_reducible refine lopsF_nil ?_ ?_); (case _ => (simp only [lfreesAt]; repeat (first | exact trivial | (refine And.intro (by unfold lfreeAt; unfold aopO; simp (disch := first | exact dch | fail) only [go_sem, Nat.reduceAdd, Nat.reduceSub, reduceIte, Nat.reduceEqDiff, Int.reduceToNat, Int.reduceBEq, Int.reduceBNe, splice, List.take_succ_cons, List.take_zero, List.drop_succ_cons, List.drop_zero, List.drop_nil, List.cons_append, List.nil_append, List.append_nil, List.length_cons, List.length_nil, List.replicate_succ, List.replicate_zero, List.flatten_cons, List.flatten_nil, Nat.reduceMul, Nat.reduceAdd, Nat.reduceLeDiff]; (repeat (with_reducible refine And.intro acl ?_)); first | exact ⟨rfl, fun d h => by cases h; rfl⟩ | exact fun d h => by cases h; rfl | exact Or.inr ⟨rfl, fun d h => by cases h; rfl⟩ | exact Or.inr (fun d h => by cases h; rfl) | exact Or.inl ⟨rfl, fun d h => by cases h; rfl⟩) ?_)))))
          | (with_reducible first | refine lavc_reg ?_ | refine lavc_seq ?_ | refine lavc_block ?_ | refine lavc_skip ?_ | refine lavc_exit ?_ | refine lavc_ret ?_ | refine lavcR_round ?_)
          | (simp only [↓reduceIte, Nat.reduceEqDiff, reduceCtorEq]))
        refine G1 F4 tt tt tt tt ⟨?_⟩
        refine lavc_lateq [.ptr 1 0 3, nlA, .ptr 0 0 0, ivC d, ivC (d + 1)] ?_ ?_ <;> simp only [lputs, o1_d, o2_d, o3_d, o4_d, tput, List.set_cons_succ, List.set_cons_zero]
        · (simp only [lfreesAt]; repeat (first | exact trivial | (refine And.intro (by unfold lfreeAt; unfold aopO; simp (disch := first | exact dch | fail) only [go_sem, Nat.reduceAdd, Nat.reduceSub, reduceIte, Nat.reduceEqDiff, Int.reduceToNat, Int.reduceBEq, Int.reduceBNe, ed]; (repeat (with_reducible refine And.intro acl ?_)); first | exact ⟨rfl, fun d h => by cases h; rfl⟩ | exact fun d h => by cases h; rfl | exact Or.inr ⟨rfl, fun d h => by cases h; rfl⟩ | exact Or.inr (fun d h => by cases h; rfl) | exact Or.inl ⟨rfl, fun d h => by cases h; rfl⟩) ?_)))
        · refine G1 F3 tt tt tt tt ⟨?_⟩
          repeat (first
            | ((with_reducible refine lopsF_step ?_ fun K hK => ?_); (case _ => (simp only [lfreesAt]; repeat (first | exact trivial | (refine And.intro (by unfold lfreeAt; unfold aopO; simp (disch := first | exact dch | fail) only [go_sem, Nat.reduceAdd, Nat.reduceSub, reduceIte, Nat.reduceEqDiff, Int.reduceToNat, Int.reduceBEq, Int.reduceBNe, ed, splice, List.take_succ_cons, List.take_zero, List.drop_succ_cons, List.drop_zero, List.drop_nil, List.cons_append, List.nil_append, List.append_nil, List.length_cons, List.length_nil, List.replicate_succ, List.replicate_zero, List.flatten_cons, List.flatten_nil, Nat.reduceMul, Nat.reduceAdd, Nat.reduceLeDiff]; (repeat (with_reducible refine And.intro acl ?_)); first | exact ⟨rfl, fun d h => by cases h; rfl⟩ | exact fun d h => by cases h; rfl | exact Or.inr ⟨rfl, fun d h => by cases h; rfl⟩ | exact Or.inr (fun d h => by cases h; rfl) | exact Or.inl ⟨rfl, fun d h => by cases h; rfl⟩) ?_)))); with_reducible skip; simp (disch := first | exact dch | fail) only [go_sem, Nat.reduceAdd, Nat.reduceSub, reduceIte, Nat.reduceEqDiff, Int.reduceToNat, Int.reduceBEq, Int.reduceBNe, ed, splice, List.take_succ_cons, List.take_zero, List.drop_succ_cons, List.drop_zero, List.drop_nil, List.cons_append, List.nil_append, List.append_nil, List.length_cons, List.length_nil, List.replicate_succ, List.replicate_zero, List.flatten_cons, List.flatten_nil, Nat.reduceMul, Nat.reduceAdd, Nat.reduceLeDiff]; (repeat (with_reducible refine And.intro acl ?_)); (first | (refine hK _ _ ?_) | (refine ⟨_, rfl, hK _ _ ?_⟩) | (refine Or.inr (hK _ _ ?_)) | (refine Or.inr ⟨rfl, hK _ _ ?_⟩) | (refine ⟨_, _, Or.inl (vm.go _ _ rfl), (by first | exact ⟨[], (List.append_nil _).symm⟩ | exact ⟨_, rfl⟩), hK _ _ ?_⟩) | (refine ⟨_, _, Or.inl (vm.go _ _ rfl), hK _ _ ?_⟩) | (refine ⟨_, _, Or.inl (vm.go _ _ rfl).weakQ, hK _ _ ?_⟩)); clear hK K)
            | ((with_reducible refine lopsF_nil ?_ ?_); (case _ => (simp only [lfreesAt]; repeat (first | exact trivial | (refine And.intro (by unfold lfreeAt; unfold aopO; simp (disch := first | exact dch | fail) only [go_sem, Nat.reduceAdd, Nat.reduceSub, reduceIte, Nat.reduceEqDiff, Int.reduceToNat, Int.reduceBEq, Int.reduceBNe, ed, splice, List.take_succ_cons, List.take_zero, List.drop_succ_cons, List.drop_zero, List.drop_nil, List.cons_append, List.nil_append, List.append_nil, List.length_cons, List.length_nil, List.replicate_succ, List.replicate_zero, List.flatten_cons, List.flatten_nil, Nat.reduceMul, Nat.reduceAdd, Nat.reduceLeDiff]; (repeat (with_reducible refine And.intro acl ?_)); first | exact ⟨rfl, fun d h => by cases h; rfl⟩ | exact fun d h => by cases h; rfl | exact Or.inr ⟨rfl, fun d h => by cases h; rfl⟩ | exact Or.inr (fun d h => by cases h; rfl) | exact Or.inl ⟨rfl, fun d h => by cases h; rfl⟩) ?_)))))
            | (with_reducible first | refine lavc_reg ?_ | refine lavc_seq ?_ | refine lavc_block ?_ | refine lavc_skip ?_ | refine lavc_exit ?_ | refine lavc_ret ?_ | refine lavcR_round ?_)
            | (simp only [↓reduceIte, Nat.reduceEqDiff, reduceCtorEq]))
          cases q with
          | true =>
            rw [if_pos rfl] at hi t4
            subst hi
            refine G1 F4 tt tt (an b3.go (an t4.go tt)) tt ⟨?_⟩
            refine R1 tt ⟨?_⟩
            exact end1V (view6 ⟨#[]⟩ [nm] [Val.mk kx tx nx vx] 3 0 4 0 (by decide) (by decide) rfl rfl _ rfl rfl) (RB.nr _) rfl
          | false =>
            rw [if_neg (by decide)] at hi t4
            cases e with
            | true =>
              rw [if_pos rfl] at hi t5
              refine G1 F4 tt tt (an b3.go (an t4.go (an t5.go tt))) tt ⟨?_⟩
              refine ⟨k, (k, [] ++ [nm], [] ++ [.mk kx tx nx vx], takeP [44] s4), by omega, ⟨rfl, by show ([] ++ [Val.mk kx tx nx vx]).length + k = 67; omega, by show ([] ++ [nm]).length = ([] ++ [Val.mk kx tx nx vx]).length; rw [hnl, hvl, hnn], by show ([] ++ [Val.mk kx tx nx vx]).length ≤ 65; omega, k7 _ (.inl rfl), keep _ (.inl rfl), hi⟩, ?_, ?_⟩
              · try unfold ms34_0
                exact A0 tt
              · show _ = HQ ([] ++ [nm]) ([] ++ [.mk kx tx nx vx]) (takeP [44] s4)
                rw [HQ_cons _ _ hne, hvl]
                rfl
            | false =>
              rw [if_neg (by decide)] at hi t5
              refine G1 F4 tt tt (an b3.go (an t4.go (an t5.go (an g5.go tt)))) tt ⟨?_⟩
              refine ⟨k, (k, [] ++ [nm], [] ++ [.mk kx tx nx vx], giveP 2 s4), by omega, ⟨rfl, by show ([] ++ [Val.mk kx tx nx vx]).length + k = 67; omega, by show ([] ++ [nm]).length = ([] ++ [Val.mk kx tx nx vx]).length; rw [hnl, hvl, hnn], by show ([] ++ [Val.mk kx tx nx vx]).length ≤ 65; omega, k7 _ (.inr rfl), keep _ (.inr rfl), hi⟩, ?_, ?_⟩
              · try unfold ms34_0
                exact A0 tt
              · show _ = HQ ([] ++ [nm]) ([] ++ [.mk kx tx nx vx]) (giveP 2 s4)
                rw [HQ_cons _ _ hne, hvl]
                rfl
    have htk : List.take (vs.length * 4) (cellsL vs) = cellsL vs := List.take_of_length_le (by omega)
    have hls := strs_length ns
    have hts : List.take vs.length (strs ns) = strs ns := List.take_of_length_le (by omega)
    have hss : strs ns ++ [stA nm] = strs (ns ++ [nm]) := by simp [strs]
    have hxs' := hxs.symm
    have hn0 : 0 < vs.length := List.length_pos_iff.2 hv
    have en : vs.length - 1 + 1 = vs.length := by omega
    have hzz : afz [3] [.sl 3 (vs.length - 1) 0 vs.length vs.length 1 false] [RB s2, ⟨[ivC 6, stA ⟨#[]⟩, .sl 3 (vs.length - 1) 0 vs.length vs.length 1 false, .sl 4 (vs.length - 1) 0 vs.length vs.length 4 false], 0, true, 26⟩, zB, ⟨strs ns, vs.length - 1, true, 9⟩, ⟨cellsL vs, vs.length - 1, true, 26⟩] fun args' _ => (∀ a ∈ args', NR a) ∧ MCall Tryz.prog glob 47 args' (RB s2) (.v (.string nm)) (RB s2') := by
      simp (disch := first | exact dch | fail) only [afz, fzV, fzS, fz_ints, List.map_cons, List.map_nil, List.getElem?_cons_zero, List.getElem?_cons_succ, List.set_cons_zero, List.set_cons_succ, ints_length, true_and, and_true, and_self, if_true, if_false, ↓reduceIte, Nat.reduceEqDiff, Nat.reduceLeDiff, Nat.reduceMul, Nat.reduceAdd, Nat.zero_add, Nat.mul_one, Nat.le_refl, List.length_replicate, List.drop_zero, ints_drop, ints_take, List.take_of_length_le, false_and, and_false, reduceCtorEq, Bool.false_eq_true, forall_const, if_pos, if_neg, hts, hls]
      (repeat (with_reducible refine And.intro acl ?_))
      have := nmm none
      rw [hnn] at this
      exact ⟨List.forall_mem_cons.2 ⟨NR.vsl (NR.strs _), fun _ h => absurd h List.not_mem_nil⟩, this⟩
    by_cases h6 : 64 ≤ vs.length
    · rw [if_pos h6] at hs2
      subst hs2
      have d64 : decide ((vs.length : Int) ≥ 64) = true := by rw [decide_eq_true_eq]; omega
      try unfold ms34_0
      refine M1 tt ⟨?_⟩
      rw [HQ_cons ns vs hv]
      refine G1 F4 (an d64 tt) tt (an g11.go tt) tt ⟨?_⟩
      refine lavc_lateq [.ptr 1 0 2, .sl 3 (vs.length - 1) 0 vs.length vs.length 1 false, .ptr 0 0 0, .ptr 1 0 2, .sl 3 (vs.length - 1) 0 vs.length vs.length 1 false] ?_ ?_ <;> simp only [lputs, o1_d, o2_d, o3_d, o4_d, tput, List.set_cons_succ, List.set_cons_zero]
      · (simp only [lfreesAt]; repeat (first | exact trivial | (refine And.intro (by unfold lfreeAt; unfold aopO; simp (disch := first | exact dch | fail) only [go_sem, Nat.reduceAdd, Nat.reduceSub, reduceIte, Nat.reduceEqDiff, Int.reduceToNat, Int.reduceBEq, Int.reduceBNe]; (repeat (with_reducible refine And.intro acl ?_)); first | exact ⟨rfl, fun d h => by cases h; rfl⟩ | exact fun d h => by cases h; rfl | exact Or.inr ⟨rfl, fun d h => by cases h; rfl⟩ | exact Or.inr (fun d h => by cases h; rfl) | exact Or.inl ⟨rfl, fun d h => by cases h; rfl⟩) ?_)))
      · refine G1 F3 tt tt tt tt ⟨?_⟩
        repeat (first
          | ((with_reducible refine lopsF_step ?_ fun K hK => ?_); (case _ => (simp only [lfreesAt]; repeat (first | exact trivial | (refine And.intro (by unfold lfreeAt; unfold aopO; simp (disch := first | exact dch | fail) only [go_sem, Nat.reduceAdd, Nat.reduceSub, reduceIte, Nat.reduceEqDiff, Int.reduceToNat, Int.reduceBEq, Int.reduceBNe, splice, List.take_succ_cons, List.take_zero, List.drop_succ_cons, List.drop_zero, List.drop_nil, List.cons_append, List.nil_append, List.append_nil, List.length_cons, List.length_nil, List.replicate_succ, List.replicate_zero, List.flatten_cons, List.flatten_nil, Nat.reduceMul, Nat.reduceAdd, Nat.reduceLeDiff]; (repeat (with_reducible refine And.intro acl ?_)); first | exact ⟨rfl, fun d h => by cases h; rfl⟩ | exact fun d h => by cases h; rfl | exact Or.inr ⟨rfl, fun d h => by cases h; rfl⟩ | exact Or.inr (fun d h => by cases h; rfl) | exact Or.inl ⟨rfl, fun d h => by cases h; rfl⟩) ?_)))); with_reducible skip; simp (disch := first | exact dch | fail) only [go_sem, Nat.reduceAdd, Nat.reduceSub, reduceIte, Nat.reduceEqDiff, Int.reduceToNat, Int.reduceBEq, Int.reduceBNe, splice, List.take_succ_cons, List.take_zero, List.drop_succ_cons, List.drop_zero, List.drop_nil, List.cons_append, List.nil_append, List.append_nil, List.length_cons, List.length_nil, List.replicate_succ, List.replicate_zero, List.flatten_cons, List.flatten_nil, Nat.reduceMul, Nat.reduceAdd, Nat.reduceLeDiff]; (repeat (with_reducible refine And.intro acl ?_)); (first | (refine hK _ _ ?_) | (refine ⟨_, rfl, hK _ _ ?_⟩) | (refine Or.inr (hK _ _ ?_)) | (refine Or.inr ⟨rfl, hK _ _ ?_⟩) | (refine ⟨_, _, Or.inl ((MCall.live ctx.nr (b := 0) [3] rfl (by decide) rfl rfl (RB.nr _) (RB.fl _) (Flat.v _) hzz)), (by first | exact ⟨[], (List.append_nil _).symm⟩ | exact ⟨_, rfl⟩), hK _ _ ?_⟩) | (refine ⟨_, _, Or.inl ((MCall.live ctx.nr (b := 0) [3] rfl (by decide) rfl rfl (RB.nr _) (RB.fl _) (Flat.v _) hzz)), hK _ _ ?_⟩) | (refine ⟨_, _, Or.inl ((MCall.live ctx.nr (b := 0) [3] rfl (by decide) rfl rfl (RB.nr _) (RB.fl _) (Flat.v _) hzz)).weakQ, hK _ _ ?_⟩)); clear hK K)
          | ((with_reducible refine lopsF_nil ?_ ?_); (case _ => (simp only [lfreesAt]; repeat (first | exact trivial | (refine And.intro (by unfold lfreeAt; unfold aopO; simp (disch := first | exact dch | fail) only [go_sem, Nat.reduceAdd, Nat.reduceSub, reduceIte, Nat.reduceEqDiff, Int.reduceToNat, Int.reduceBEq, Int.reduceBNe, splice, List.take_succ_cons, List.take_zero, List.drop_succ_cons, List.drop_zero, List.drop_nil, List.cons_append, List.nil_append, List.append_nil, List.length_cons, List.length_nil, List.replicate_succ, List.replicate_zero, List.flatten_cons, List.flatten_nil, Nat.reduceMul, Nat.reduceAdd, Nat.reduceLeDiff]; (repeat (with_reducible refine And.intro acl ?_)); first | exact ⟨rfl, fun d h => by cases h; rfl⟩ | exact fun d h => by cases h; rfl | exact Or.inr ⟨rfl, fun d h => by cases h; rfl⟩ | exact Or.inr (fun d h => by cases h; rfl) | exact Or.inl ⟨rfl, fun d h => by cases h; rfl⟩) ?_)))))
          | (with_reducible first | refine lavc_reg ?_ | refine lavc_seq ?_ | refine lavc_block ?_ | refine lavc_skip ?_ | refine lavc_exit ?_ | refine lavc_ret ?_ | refine lavcR_round ?_)
          | (simp only [↓reduceIte, Nat.reduceEqDiff, reduceCtorEq]))
        refine G1 F4 (an htk (an hln (an hxs' (an en (an hts (an hls (an hss tt))))))) tt tt tt ⟨?_⟩
        refine lavc_lateq [.ptr 1 0 3, .sl 4 (vs.length - 1) 0 vs.length vs.length 4 false, .ptr 0 0 0, ivC d, ivC (d + 1)] ?_ ?_ <;> simp only [lputs, o1_d, o2_d, o3_d, o4_d, tput, List.set_cons_succ, List.set_cons_zero]
        · (simp only [lfreesAt]; repeat (first | exact trivial | (refine And.intro (by unfold lfreeAt; unfold aopO; simp (disch := first | exact dch | fail) only [go_sem, Nat.reduceAdd, Nat.reduceSub, reduceIte, Nat.reduceEqDiff, Int.reduceToNat, Int.reduceBEq, Int.reduceBNe, ed]; (repeat (with_reducible refine And.intro acl ?_)); first | exact ⟨rfl, fun d h => by cases h; rfl⟩ | exact fun d h => by cases h; rfl | exact Or.inr ⟨rfl, fun d h => by cases h; rfl⟩ | exact Or.inr (fun d h => by cases h; rfl) | exact Or.inl ⟨rfl, fun d h => by cases h; rfl⟩) ?_)))
        · refine G1 F3 tt tt tt tt ⟨?_⟩
          repeat (first
            | ((with_reducible refine lopsF_step ?_ fun K hK => ?_); (case _ => (simp only [lfreesAt]; repeat (first | exact trivial | (refine And.intro (by unfold lfreeAt; unfold aopO; simp (disch := first | exact dch | fail) only [go_sem, Nat.reduceAdd, Nat.reduceSub, reduceIte, Nat.reduceEqDiff, Int.reduceToNat, Int.reduceBEq, Int.reduceBNe, ed, splice, List.take_succ_cons, List.take_zero, List.drop_succ_cons, List.drop_zero, List.drop_nil, List.cons_append, List.nil_append, List.append_nil, List.length_cons, List.length_nil, List.replicate_succ, List.replicate_zero, List.flatten_cons, List.flatten_nil, Nat.reduceMul, Nat.reduceAdd, Nat.reduceLeDiff]; (repeat (with_reducible refine And.intro acl ?_)); first | exact ⟨rfl, fun d h => by cases h; rfl⟩ | exact fun d h => by cases h; rfl | exact Or.inr ⟨rfl, fun d h => by cases h; rfl⟩ | exact Or.inr (fun d h => by cases h; rfl) | exact Or.inl ⟨rfl, fun d h => by cases h; rfl⟩) ?_)))); with_reducible skip; simp (disch := first | exact dch | fail) only [go_sem, Nat.reduceAdd, Nat.reduceSub, reduceIte, Nat.reduceEqDiff, Int.reduceToNat, Int.reduceBEq, Int.reduceBNe, ed, splice, List.take_succ_cons, List.take_zero, List.drop_succ_cons, List.drop_zero, List.drop_nil, List.cons_append, List.nil_append, List.append_nil, List.length_cons, List.length_nil, List.replicate_succ, List.replicate_zero, List.flatten_cons, List.flatten_nil, Nat.reduceMul, Nat.reduceAdd, Nat.reduceLeDiff]; (repeat (with_reducible refine And.intro acl ?_)); (first | (refine hK _ _ ?_) | (refine ⟨_, rfl, hK _ _ ?_⟩) | (refine Or.inr (hK _ _ ?_)) | (refine Or.inr ⟨rfl, hK _ _ ?_⟩) | (refine ⟨_, _, Or.inl (vm.go _ _ rfl), (by first | exact ⟨[], (List.append_nil _).symm⟩ | exact ⟨_, rfl⟩), hK _ _ ?_⟩) | (refine ⟨_, _, Or.inl (vm.go _ _ rfl), hK _ _ ?_⟩) | (refine ⟨_, _, Or.inl (vm.go _ _ rfl).weakQ, hK _ _ ?_⟩)); clear hK K)
            | ((with_reducible refine lopsF_nil ?_ ?_); (case _ => (simp only [lfreesAt]; repeat (first | exact trivial | (refine And.intro (by unfold lfreeAt; unfold aopO; simp (disch := first | exact dch | fail) only [go_sem, Nat.reduceAdd, Nat.reduceSub, reduceIte, Nat.reduceEqDiff, Int.reduceToNat, Int.reduceBEq, Int.reduceBNe, ed, splice, List.take_succ_cons, List.take_zero, List.drop_succ_cons, List.drop_zero, List.drop_nil, List.cons_append, List.nil_append, List.append_nil, List.length_cons, List.length_nil, List.replicate_succ, List.replicate_zero, List.flatten_cons, List.flatten_nil, Nat.reduceMul, Nat.reduceAdd, Nat.reduceLeDiff]; (repeat (with_reducible refine And.intro acl ?_)); first | exact ⟨rfl, fun d h => by cases h; rfl⟩ | exact fun d h => by cases h; rfl | exact Or.inr ⟨rfl, fun d h => by cases h; rfl⟩ | exact Or.inr (fun d h => by cases h; rfl) | exact Or.inl ⟨rfl, fun d h => by cases h; rfl⟩) ?_)))))
            | (with_reducible first | refine lavc_reg ?_ | refine lavc_seq ?_ | refine lavc_block ?_ | refine lavc_skip ?_ | refine lavc_exit ?_ | refine lavc_ret ?_ | refine lavcR_round ?_)
            | (simp only [↓reduceIte, Nat.reduceEqDiff, reduceCtorEq]))
          cases q with
          | true =>
            rw [if_pos rfl] at hi t4
            subst hi
            refine G1 F4 (an htk (an hln (an hxs' (an en (an hts (an hls (an hss tt))))))) tt (an b3.go (an t4.go tt)) tt ⟨?_⟩
            refine R1 tt ⟨?_⟩
            exact end1V (view6 ⟨#[]⟩ (ns ++ [nm]) (vs ++ [Val.mk kx tx nx vx]) 3 vs.length 4 vs.length (by decide) (by decide) rfl rfl _ hvl.symm (by rw [hnl, hnn])) (RB.nr _) rfl
          | false =>
            rw [if_neg (by decide)] at hi t4
            cases e with
            | true =>
              rw [if_pos rfl] at hi t5
              refine G1 F4 (an htk (an hln (an hxs' (an en (an hts (an hls (an hss tt))))))) tt (an b3.go (an t4.go (an t5.go tt))) tt ⟨?_⟩
              refine ⟨k, (k, ns ++ [nm], vs ++ [.mk kx tx nx vx], takeP [44] s4), by omega, ⟨rfl, by show (vs ++ [Val.mk kx tx nx vx]).length + k = 67; omega, by show (ns ++ [nm]).length = (vs ++ [Val.mk kx tx nx vx]).length; rw [hnl, hvl, hnn], by show (vs ++ [Val.mk kx tx nx vx]).length ≤ 65; omega, k7 _ (.inl rfl), keep _ (.inl rfl), hi⟩, ?_, ?_⟩
              · try unfold ms34_0
                exact A0 tt
              · show _ = HQ (ns ++ [nm]) (vs ++ [.mk kx tx nx vx]) (takeP [44] s4)
                rw [HQ_cons _ _ hne, hvl]
                rfl
            | false =>
              rw [if_neg (by decide)] at hi t5
              refine G1 F4 (an htk (an hln (an hxs' (an en (an hts (an hls (an hss tt))))))) tt (an b3.go (an t4.go (an t5.go (an g5.go tt)))) tt ⟨?_⟩
              refine ⟨k, (k, ns ++ [nm], vs ++ [.mk kx tx nx vx], giveP 2 s4), by omega, ⟨rfl, by show (vs ++ [Val.mk kx tx nx vx]).length + k = 67; omega, by show (ns ++ [nm]).length = (vs ++ [Val.mk kx tx nx vx]).length; rw [hnl, hvl, hnn], by show (vs ++ [Val.mk kx tx nx vx]).length ≤ 65; omega, k7 _ (.inr rfl), keep _ (.inr rfl), hi⟩, ?_, ?_⟩
              · try unfold ms34_0
                exact A0 tt
              · show _ = HQ (ns ++ [nm]) (vs ++ [.mk kx tx nx vx]) (giveP 2 s4)
                rw [HQ_cons _ _ hne, hvl]
                rfl
    · rw [if_neg h6] at hs2
      subst hs2
      have d64 : decide ((vs.length : Int) ≥ 64) = false := by rw [decide_eq_false_iff_not]; omega
      try unfold ms34_0
      refine M1 tt ⟨?_⟩
      rw [HQ_cons ns vs hv]
      refine G1 F4 (an d64 tt) tt tt tt ⟨?_⟩
      refine lavc_lateq [.ptr 1 0 2, .sl 3 (vs.length - 1) 0 vs.length vs.length 1 false, .ptr 0 0 0, .ptr 1 0 2, .sl 3 (vs.length - 1) 0 vs.length vs.length 1 false] ?_ ?_ <;> simp only [lputs, o1_d, o2_d, o3_d, o4_d, tput, List.set_cons_succ, List.set_cons_zero]
      · (simp only [lfreesAt]; repeat (first | exact trivial | (refine And.intro (by unfold lfreeAt; unfold aopO; simp (disch := first | exact dch | fail) only [go_sem, Nat.reduceAdd, Nat.reduceSub, reduceIte, Nat.reduceEqDiff, Int.reduceToNat, Int.reduceBEq, Int.reduceBNe]; (repeat (with_reducible refine And.intro acl ?_)); first | exact ⟨rfl, fun d h => by cases h; rfl⟩ | exact fun d h => by cases h; rfl | exact Or.inr ⟨rfl, fun d h => by cases h; rfl⟩ | exact Or.inr (fun d h => by cases h; rfl) | exact Or.inl ⟨rfl, fun d h => by cases h; rfl⟩) ?_)))
      · refine G1 F3 tt tt tt tt ⟨?_⟩
        repeat (first
          | ((with_reducible refine lopsF_step ?_ fun K hK => ?_); (case _ => (simp only [lfreesAt]; repeat (first | exact trivial | (refine And.intro (by unfold lfreeAt; unfold aopO; simp (disch := first | exact dch | fail) only [go_sem, Nat.reduceAdd, Nat.reduceSub, reduceIte, Nat.reduceEqDiff, Int.reduceToNat, Int.reduceBEq, Int.reduceBNe, splice, List.take_succ_cons, List.take_zero, List.drop_succ_cons, List.drop_zero, List.drop_nil, List.cons_append, List.nil_append, List.append_nil, List.length_cons, List.length_nil, List.replicate_succ, List.replicate_zero, List.flatten_cons, List.flatten_nil, Nat.reduceMul, Nat.reduceAdd, Nat.reduceLeDiff]; (repeat (with_reducible refine And.intro acl ?_)); first | exact ⟨rfl, fun d h => by cases h; rfl⟩ | exact fun d h => by cases h; rfl | exact Or.inr ⟨rfl, fun d h => by cases h; rfl⟩ | exact Or.inr (fun d h => by cases h; rfl) | exact Or.inl ⟨rfl, fun d h => by cases h; rfl⟩) ?_)))); with_reducible skip; simp (disch := first | exact dch | fail) only [go_sem, Nat.reduceAdd, Nat.reduceSub, reduceIte, Nat.reduceEqDiff, Int.reduceToNat, Int.reduceBEq, Int.reduceBNe, splice, List.take_succ_cons, List.take_zero, List.drop_succ_cons, List.drop_zero, List.drop_nil, List.cons_append, List.nil_append, List.append_nil, List.length_cons, List.length_nil, List.replicate_succ, List.replicate_zero, List.flatten_cons, List.flatten_nil, Nat.reduceMul, Nat.reduceAdd, Nat.reduceLeDiff]; (repeat (with_reducible refine And.intro acl ?_)); (first | (refine hK _ _ ?_) | (refine ⟨_, rfl, hK _ _ ?_⟩) | (refine Or.inr (hK _ _ ?_)) | (refine Or.inr ⟨rfl, hK _ _ ?_⟩) | (refine ⟨_, _, Or.inl ((MCall.live ctx.nr (b := 0) [3] rfl (by decide) rfl rfl (RB.nr _) (RB.fl _) (Flat.v _) hzz)), (by first | exact ⟨[], (List.append_nil _).symm⟩ | exact ⟨_, rfl⟩), hK _ _ ?_⟩) | (refine ⟨_, _, Or.inl ((MCall.live ctx.nr (b := 0) [3] rfl (by decide) rfl rfl (RB.nr _) (RB.fl _) (Flat.v _) hzz)), hK _ _ ?_⟩) | (refine ⟨_, _, Or.inl ((MCall.live ctx.nr (b := 0) [3] rfl (by decide) rfl rfl (RB.nr _) (RB.fl _) (Flat.v _) hzz)).weakQ, hK _ _ ?_⟩)); clear hK K)
          | ((with_reducible refine lopsF_nil ?_ ?_); (case _ => (simp only [lfreesAt]; repeat (first | exact trivial | (refine And.intro (by unfold lfreeAt; unfold aopO; simp (disch := first | exact dch | fail) only [go_sem, Nat.reduceAdd, Nat.reduceSub, reduceIte, Nat.reduceEqDiff, Int.reduceToNat, Int.reduceBEq, Int.reduceBNe, splice, List.take_succ_cons, List.take_zero, List.drop_succ_cons, List.drop_zero, List.drop_nil, List.cons_append, List.nil_append, List.append_nil, List.length_cons, List.length_nil, List.replicate_succ, List.replicate_zero, List.flatten_cons, List.flatten_nil, Nat.reduceMul, Nat.reduceAdd, Nat.reduceLeDiff]; (repeat (with_reducible refine And.intro acl ?_)); first | exact ⟨rfl, fun d h => by cases h; rfl⟩ | exact fun d h => by cases h; rfl | exact Or.inr ⟨rfl, fun d h => by cases h; rfl⟩ | exact Or.inr (fun d h => by cases h; rfl) | exact Or.inl ⟨rfl, fun d h => by cases h; rfl⟩) ?_)))))
          | (with_reducible first | refine lavc_reg ?_ | refine lavc_seq ?_ | refine lavc_block ?_ | refine lavc_skip ?_ | refine lavc_exit ?_ | refine lavc_ret ?_ | refine lavcR_round ?_)
          | (simp only [↓reduceIte, Nat.reduceEqDiff, reduceCtorEq]))
        refine G1 F4 (an htk (an hln (an hxs' (an en (an hts (an hls (an hss tt))))))) tt tt tt ⟨?_⟩
        refine lavc_lateq [.ptr 1 0 3, .sl 4 (vs.length - 1) 0 vs.length vs.length 4 false, .ptr 0 0 0, ivC d, ivC (d + 1)] ?_ ?_ <;> simp only [lputs, o1_d, o2_d, o3_d, o4_d, tput, List.set_cons_succ, List.set_cons_zero]
        · (simp only [lfreesAt]; repeat (first | exact trivial | (refine And.intro (by unfold lfreeAt; unfold aopO; simp (disch := first | exact dch | fail) only [go_sem, Nat.reduceAdd, Nat.reduceSub, reduceIte, Nat.reduceEqDiff, Int.reduceToNat, Int.reduceBEq, Int.reduceBNe, ed]; (repeat (with_reducible refine And.intro acl ?_)); first | exact ⟨rfl, fun d h => by cases h; rfl⟩ | exact fun d h => by cases h; rfl | exact Or.inr ⟨rfl, fun d h => by cases h; rfl⟩ | exact Or.inr (fun d h => by cases h; rfl) | exact Or.inl ⟨rfl, fun d h => by cases h; rfl⟩) ?_)))
        · refine G1 F3 tt tt tt tt ⟨?_⟩
          repeat (first
            | ((with_reducible refine lopsF_step ?_ fun K hK => ?_); (case _ => (simp only [lfreesAt]; repeat (first | exact trivial | (refine And.intro (by unfold lfreeAt; unfold aopO; simp (disch := first | exact dch | fail) only [go_sem, Nat.reduceAdd, Nat.reduceSub, reduceIte, Nat.reduceEqDiff, Int.reduceToNat, Int.reduceBEq, Int.reduceBNe, ed, splice, List.take_succ_cons, List.take_zero, List.drop_succ_cons, List.drop_zero, List.drop_nil, List.cons_append, List.nil_append, List.append_nil, List.length_cons, List.length_nil, List.replicate_succ, List.replicate_zero, List.flatten_cons, List.flatten_nil, Nat.reduceMul, Nat.reduceAdd, Nat.reduceLeDiff]; (repeat (with_reducible refine And.intro acl ?_)); first | exact ⟨rfl, fun d h => by cases h; rfl⟩ | exact fun d h => by cases h; rfl | exact Or.inr ⟨rfl, fun d h => by cases h; rfl⟩ | exact Or.inr (fun d h => by cases h; rfl) | exact Or.inl ⟨rfl, fun d h => by cases h; rfl⟩) ?_)))); with_reducible skip; simp (disch := first | exact dch | fail) only [go_sem, Nat.reduceAdd, Nat.reduceSub, reduceIte, Nat.reduceEqDiff, Int.reduceToNat, Int.reduceBEq, Int.reduceBNe, ed, splice, List.take_succ_cons, List.take_zero, List.drop_succ_cons, List.drop_zero, List.drop_nil, List.cons_append, List.nil_append, List.append_nil, List.length_cons, List.length_nil, List.replicate_succ, List.replicate_zero, List.flatten_cons, List.flatten_nil, Nat.reduceMul, Nat.reduceAdd, Nat.reduceLeDiff]; (repeat (with_reducible refine And.intro acl ?_)); (first | (refine hK _ _ ?_) | (refine ⟨_, rfl, hK _ _ ?_⟩) | (refine Or.inr (hK _ _ ?_)) | (refine Or.inr ⟨rfl, hK _ _ ?_⟩) | (refine ⟨_, _, Or.inl (vm.go _ _ rfl), (by first | exact ⟨[], (List.append_nil _).symm⟩ | exact ⟨_, rfl⟩), hK _ _ ?_⟩) | (refine ⟨_, _, Or.inl (vm.go _ _ rfl), hK _ _ ?_⟩) | (refine ⟨_, _, Or.inl (vm.go _ _ rfl).weakQ, hK _ _ ?_⟩)); clear hK K)
            | ((with_reducible refine lopsF_nil ?_ ?_); (case _ => (simp only [lfreesAt]; repeat (first | exact trivial | (refine And.intro (by unfold lfreeAt; unfold aopO; simp (disch := first | exact dch | fail) only [go_sem, Nat.reduceAdd, Nat.reduceSub, reduceIte, Nat.reduceEqDiff, Int.reduceToNat, Int.reduceBEq, Int.reduceBNe, ed, splice, List.take_succ_cons, List.take_zero, List.drop_succ_cons, List.drop_zero, List.drop_nil, List.cons_append, List.nil_append, List.append_nil, List.length_cons, List.length_nil, List.replicate_succ, List.replicate_zero, List.flatten_cons, List.flatten_nil, Nat.reduceMul, Nat.reduceAdd, Nat.reduceLeDiff]; (repeat (with_reducible refine And.intro acl ?_)); first | exact ⟨rfl, fun d h => by cases h; rfl⟩ | exact fun d h => by cases h; rfl | exact Or.inr ⟨rfl, fun d h => by cases h; rfl⟩ | exact Or.inr (fun d h => by cases h; rfl) | exact Or.inl ⟨rfl, fun d h => by cases h; rfl⟩) ?_)))))
            | (with_reducible first | refine lavc_reg ?_ | refine lavc_seq ?_ | refine lavc_block ?_ | refine lavc_skip ?_ | refine lavc_exit ?_ | refine lavc_ret ?_ | refine lavcR_round ?_)
            | (simp only [↓reduceIte, Nat.reduceEqDiff, reduceCtorEq]))
          cases q with
          | true =>
            rw [if_pos rfl] at hi t4
            subst hi
            refine G1 F4 (an htk (an hln (an hxs' (an en (an hts (an hls (an hss tt))))))) tt (an b3.go (an t4.go tt)) tt ⟨?_⟩
            refine R1 tt ⟨?_⟩
            exact end1V (view6 ⟨#[]⟩ (ns ++ [nm]) (vs ++ [Val.mk kx tx nx vx]) 3 vs.length 4 vs.length (by decide) (by decide) rfl rfl _ hvl.symm (by rw [hnl, hnn])) (RB.nr _) rfl
          | false =>
            rw [if_neg (by decide)] at hi t4
            cases e with
            | true =>
              rw [if_pos rfl] at hi t5
              refine G1 F4 (an htk (an hln (an hxs' (an en (an hts (an hls (an hss tt))))))) tt (an b3.go (an t4.go (an t5.go tt))) tt ⟨?_⟩
              refine ⟨k, (k, ns ++ [nm], vs ++ [.mk kx tx nx vx], takeP [44] s4), by omega, ⟨rfl, by show (vs ++ [Val.mk kx tx nx vx]).length + k = 67; omega, by show (ns ++ [nm]).length = (vs ++ [Val.mk kx tx nx vx]).length; rw [hnl, hvl, hnn], by show (vs ++ [Val.mk kx tx nx vx]).length ≤ 65; omega, k7 _ (.inl rfl), keep _ (.inl rfl), hi⟩, ?_, ?_⟩
              · try unfold ms34_0
                exact A0 tt
              · show _ = HQ (ns ++ [nm]) (vs ++ [.mk kx tx nx vx]) (takeP [44] s4)
                rw [HQ_cons _ _ hne, hvl]
                rfl
            | false =>
              rw [if_neg (by decide)] at hi t5
              refine G1 F4 (an htk (an hln (an hxs' (an en (an hts (an hls (an hss tt))))))) tt (an b3.go (an t4.go (an t5.go (an g5.go tt)))) tt ⟨?_⟩
              refine ⟨k, (k, ns ++ [nm], vs ++ [.mk kx tx nx vx], giveP 2 s4), by omega, ⟨rfl, by show (vs ++ [Val.mk kx tx nx vx]).length + k = 67; omega, by show (ns ++ [nm]).length = (vs ++ [Val.mk kx tx nx vx]).length; rw [hnl, hvl, hnn], by show (vs ++ [Val.mk kx tx nx vx]).length ≤ 65; omega, k7 _ (.inr rfl), keep _ (.inr rfl), hi⟩, ?_, ?_⟩
              · try unfold ms34_0
                exact A0 tt
              · show _ = HQ (ns ++ [nm]) (vs ++ [.mk kx tx nx vx]) (giveP 2 s4)
                rw [HQ_cons _ _ hne, hvl]
                rfl
end Go.Abs.S
