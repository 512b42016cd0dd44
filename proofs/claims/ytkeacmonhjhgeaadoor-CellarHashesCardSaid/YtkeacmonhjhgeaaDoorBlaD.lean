/- blake's block in the reference; a sum's bytes in the program. -/
import Derived.Test.YtkeacmonhjhgeaaDoorBlaC
namespace Go.Abs.S
attribute [local go_sem] lguard aopO aop nxL aenv toAV tput aLoad aStore vcells aBin aNilI aUn aAlloc aBox aBuild aBSlice afill aConv isIntT aappZ aCap aArr aMM aMake aSlice bnd3 bnd aFldAddr aFld aIdxAddr aIdx aExt aLen aCopy aEq0 bAV aUb aapp aappQ agh acont List.getD_cons_zero List.getD_cons_succ List.set_cons_zero List.set_cons_succ List.getElem?_cons_zero List.getElem?_cons_succ List.length_cons List.length_nil List.map_cons List.map_nil ints_length if_true if_false Bool.false_eq_true true_and and_true eq_self ne_eq not_false_eq_true not_true_eq_false beq_self_eq_true Nat.zero_add Nat.add_zero Nat.mul_one Nat.zero_mul Int.toNat_natCast List.toList_toArray List.all_cons List.all_nil AV.one Value.oneCell' Bool.and_true Bool.true_and forall_const true_implies false_implies implies_true Option.map_some Option.map_none Option.isSome_some Option.isSome_none imp_self rdP_flat rdP_row splice_one ints_set ints_get List.append_nil List.cons_append List.nil_append List.getElem?_toArray List.drop_zero ints_drop ints_take List.take_of_length_le splice_all ints_one Option.some.injEq Option.getD_some List.length_replicate zArr List.map_replicate rep_ints splice_intsR List.length_set List.length_append List.flatten_replicate_singleton rep_slice rep_string rep_bool rep_iface List.replicate_zero if_pos if_neg List.mapM_cons List.mapM_nil Option.pure_def Option.bind_eq_bind Option.bind_some Bool.true_eq_false Bool.not_false Bool.not_true get_concat set_concat
open Go.Proofs
open Go.Abs.B
set_option linter.unusedVariables false
set_option linter.unusedSimpArgs false
set_option maxRecDepth 100000
set_option maxHeartbeats 2000000
/-- The first k words of both halves. -/
def gN (s : List Int) (k : Nat) : List Int := (List.range 16).map fun j => if j < k then s.getD j 0 else if 8 ≤ j ∧ j < 8 + k then start512.getD (j - 8) 0 else 0
theorem gN_length (s : List Int) (k : Nat) : (gN s k).length = 16 := by simp [gN]
theorem gN_zero (s : List Int) : gN s 0 = List.replicate 16 0 := by
  apply List.ext_getElem
  · simp [gN]
  · intro j h1 h2
    simp only [gN, List.getElem_map, List.getElem_range, List.getElem_replicate]
    rw [if_neg (by omega), if_neg (by omega)]
theorem gN_step (s : List Int) (k : Nat) (hk : k < 8) : ((gN s k).set k (s.getD k 0)).set (k + 8) (start512.getD k 0) = gN s (k + 1) := by
  apply List.ext_getElem
  · simp [gN]
  · intro j h1 h2
    rw [List.getElem_set, List.getElem_set]
    simp only [gN, List.getElem_map, List.getElem_range]
    by_cases e1 : k + 8 = j
    · rw [if_pos e1, if_neg (by omega), if_pos (by omega)]
      congr 1
      omega
    · rw [if_neg e1]
      by_cases e2 : k = j
      · rw [if_pos e2, if_pos (by omega), e2]
      · rw [if_neg e2]
        by_cases h3 : j < k
        · rw [if_pos h3, if_pos (by omega)]
        · have h5 : ¬ j < k + 1 := by omega
          rw [if_neg h3, if_neg h5]
          by_cases h4 : 8 ≤ j ∧ j < 8 + k
          · rw [if_pos h4, if_pos (show 8 ≤ j ∧ j < 8 + (k + 1) from by omega)]
          · rw [if_neg h4, if_neg (show ¬ (8 ≤ j ∧ j < 8 + (k + 1)) from by omega)]
theorem gN_all (s : List Int) (hs : s.length = 8) : gN s 8 = s ++ start512 := by
  apply List.ext_getElem
  · simp [gN, hs]; rfl
  · intro j h1 h2
    simp only [gN, List.getElem_map, List.getElem_range]
    rw [List.getElem_append]
    by_cases h : j < 8
    · rw [if_pos h, dif_pos (by omega)]
      simp [List.getD_eq_getElem?_getD, hs, h]
    · have hl : start512.length = 8 := rfl
      have h3 : j < 16 := by simpa [gN] using h1
      rw [if_neg h, if_pos (by omega), dif_neg (by omega)]
      simp [List.getD_eq_getElem?_getD, hs, hl, show j - 8 < 8 by omega]
theorem max_sub (x : Int) (h : U64 x) : IntKind.u64.wrap (18446744073709551615 - x) = 18446744073709551615 - x := by
  unfold U64 at h
  rw [IntKind.wrap_u64]
  omega
theorem refBlock_p (s b : List Int) (cx : Option Nat) (nb N : Nat) (last : Bool) (hs : s.length = 8) (ws : W64 s) (hnb : b.length = nb) (hb : B8 b) (hlb : nb ≤ 1000000) (hN : N ≤ 9223372036854775807) :
    PCall Tryd.prog glob 32 [.agg (ints .u64 s), .vsl nb (ints .u8 b) cx, .v (.int .i64 N), .v (.bool last)] (.agg (ints .u64 (blkP s b N last))) := by
  refine PCall.of ctx.nr (by (repeat (refine List.forall_mem_cons.2 (And.intro (by first | exact NR.v _ | exact NR.agg (NR.ints _ _) | exact NR.vsl (NR.ints _ _) | exact NR.vptr (NR.ints _ _) | assumption) ?_))); exact fun _ h => absurd h List.not_mem_nil) (NR.agg (NR.ints _ _)) ?_
  refine lcall32 (by simp) 0 (Nat.le_refl _) ?_
  unfold lc32
  simp only [List.length_cons, List.length_nil, Nat.reduceAdd, Nat.reduceSub, List.replicate_succ, List.replicate_zero, List.cons_append, List.nil_append]
  have hst : start512.length = 8 := rfl
  have l0 : lay_escutcheon_api_Start512 = start512 := rfl
  have l1 : lay_escutcheon_api_Turns = turnsL := rfl
  have t1 : turnsL.length = 160 := rfl
  have hN1 : IntKind.u64.wrap (N : Int) = N := by rw [IntKind.wrap_u64]; omega
  have w0 : W64 (s ++ start512) := ws.append W64.start
  have n0 : (s ++ start512).length = 16 := by simp [hs, hst]
  have x0 := xor64_p ((s ++ start512).getD 12 0) N (w0.get 12) ⟨by omega, by omega⟩
  obtain ⟨g, hg⟩ : ∃ g, (s ++ start512).set 12 (xor64 ((s ++ start512).getD 12 0) N) = g := ⟨_, rfl⟩
  have wg : W64 g := hg ▸ w0.set 12 ((w0.get 12).xor ⟨by omega, by omega⟩)
  have ng : g.length = 16 := by rw [← hg, List.length_set, n0]
  have hgrid : grid0 s N last = if last then g.set 14 (18446744073709551615 - g.getD 14 0) else g := by rw [← hg]; rfl
  have nx := max_sub (g.getD 14 0) (wg.get 14)
  have wG := ws.grid0 N (by omega) last
  have nG := grid0_length s hs N last
  repeat (first
    | (with_reducible refine lops_step fun K hK => ?_; simp (disch := first | omega | (simp only [go_sem, isRow, isFlat, Option.isSome_some]; done) | assumption | (simp only [ints_length, List.length_replicate, List.length_set, List.length_append, List.length_take, List.length_drop, List.length_cons, List.length_nil] <;> omega) | fail) only [go_sem, Nat.reduceAdd, Nat.reduceSub, reduceIte, Nat.reduceEqDiff, Int.reduceToNat, Int.reduceBEq, Int.reduceBNe, hs]; (repeat (with_reducible refine And.intro (by first | omega | rfl | assumption | decide) ?_)); (first | (refine hK _ _ ?_) | (refine ⟨_, rfl, hK _ _ ?_⟩) | (refine Or.inl (hK _ _ ?_))); clear hK K)
    | (with_reducible refine lops_nil ?_)
    | (with_reducible refine lavc_reg ?_)
    | (with_reducible refine lavc_seq ?_)
    | (with_reducible refine lavc_block ?_)
    | (with_reducible refine lavc_skip ?_)
    | (with_reducible refine lavc_exit ?_)
    | (with_reducible refine lavc_ret ?_)
    | (with_reducible refine lavcR_round ?_)
    | (simp only [↓reduceIte, Nat.reduceEqDiff, reduceCtorEq]))
  refine lavc_loopM ms32_0 (fun m (k : Nat) => m + k = 8) (fun k => [(10, .v (.int .i64 k))]) (fun k => [⟨ints .u64 s, 0, true, 55⟩, ⟨ints .u64 (List.replicate 8 0), 0, true, 55⟩, ⟨ints .u64 (gN s k), 0, true, 66⟩]) 8 0 rfl ?_ (by rw [gN_zero]) ?_
  · simp only [ms32_0, putAll, blank, List.foldl_cons, List.foldl_nil, List.set_cons_succ, List.set_cons_zero, List.cons_append, List.nil_append, ALe, true_or, or_true, and_true, true_and, eq_self, reduceCtorEq, false_or]
    rfl
  intro m k hk
  simp only [ms32_0, putAll, blank, List.foldl_cons, List.foldl_nil, List.set_cons_succ, List.set_cons_zero, List.cons_append, List.nil_append]
  have gl := gN_length s k
  repeat (first
    | (with_reducible refine lops_step fun K hK => ?_; simp (disch := first | omega | (simp only [go_sem, isRow, isFlat, Option.isSome_some]; done) | assumption | (simp only [ints_length, List.length_replicate, List.length_set, List.length_append, List.length_take, List.length_drop, List.length_cons, List.length_nil] <;> omega) | fail) only [go_sem, Nat.reduceAdd, Nat.reduceSub, reduceIte, Nat.reduceEqDiff, Int.reduceToNat, Int.reduceBEq, Int.reduceBNe]; (repeat (with_reducible refine And.intro (by first | omega | rfl | assumption | decide) ?_)); (first | (refine hK _ _ ?_) | (refine ⟨_, rfl, hK _ _ ?_⟩) | (refine Or.inl (hK _ _ ?_))); clear hK K)
    | (with_reducible refine lops_nil ?_)
    | (with_reducible refine lavc_reg ?_)
    | (with_reducible refine lavc_seq ?_)
    | (with_reducible refine lavc_block ?_)
    | (with_reducible refine lavc_skip ?_)
    | (with_reducible refine lavc_exit ?_)
    | (with_reducible refine lavc_ret ?_)
    | (with_reducible refine lavcR_round ?_)
    | (simp only [↓reduceIte, Nat.reduceEqDiff, reduceCtorEq]))
  refine lavc_cond rfl (fun hc => ?_) (fun hc => ?_) <;> try simp only [decide_eq_true_eq, decide_eq_false_iff_not, Int.not_lt, Int.not_le, beq_iff_eq, bne_iff_ne, bne_eq_false_iff_eq, beq_eq_false_iff_ne, ne_eq, Bool.not_eq_true', Bool.not_eq_false'] at hc
  · have e5 := i64n ((k : Int) + 1) (k + 1) (by omega) (by omega)
    have e6 := i64n ((k : Int) + 8) (k + 8) (by omega) (by omega)
    have gs := gN_step s k (by omega)
    repeat (first
      | (with_reducible refine lops_step fun K hK => ?_; simp (disch := first | omega | (simp only [go_sem, isRow, isFlat, Option.isSome_some]; done) | assumption | (simp only [ints_length, List.length_replicate, List.length_set, List.length_append, List.length_take, List.length_drop, List.length_cons, List.length_nil] <;> omega) | fail) only [go_sem, Nat.reduceAdd, Nat.reduceSub, reduceIte, Nat.reduceEqDiff, Int.reduceToNat, Int.reduceBEq, Int.reduceBNe, l0, hst, hs, e5, e6, gs]; (repeat (with_reducible refine And.intro (by first | omega | rfl | assumption | decide) ?_)); (first | (refine hK _ _ ?_) | (refine ⟨_, rfl, hK _ _ ?_⟩) | (refine Or.inl (hK _ _ ?_))); clear hK K)
      | (with_reducible refine lops_nil ?_)
      | (with_reducible refine lavc_reg ?_)
      | (with_reducible refine lavc_seq ?_)
      | (with_reducible refine lavc_block ?_)
      | (with_reducible refine lavc_skip ?_)
      | (with_reducible refine lavc_exit ?_)
      | (with_reducible refine lavc_ret ?_)
      | (with_reducible refine lavcR_round ?_)
      | (simp only [↓reduceIte, Nat.reduceEqDiff, reduceCtorEq]))
    refine ⟨m - 1, k + 1, by omega, by omega, ?_, rfl⟩
    simp only [ms32_0, putAll, blank, List.foldl_cons, List.foldl_nil, List.set_cons_succ, List.set_cons_zero, List.cons_append, List.nil_append, ALe, true_or, or_true, and_true, true_and, eq_self, reduceCtorEq, false_or]
  obtain rfl : k = 8 := by omega
  rw [gN_all s hs] at gl ⊢
  repeat (first
    | (with_reducible refine lops_step fun K hK => ?_; simp (disch := first | omega | (simp only [go_sem, isRow, isFlat, Option.isSome_some]; done) | assumption | (simp only [ints_length, List.length_replicate, List.length_set, List.length_append, List.length_take, List.length_drop, List.length_cons, List.length_nil] <;> omega) | fail) only [go_sem, Nat.reduceAdd, Nat.reduceSub, reduceIte, Nat.reduceEqDiff, Int.reduceToNat, Int.reduceBEq, Int.reduceBNe, hN1, x0, hg]; (repeat (with_reducible refine And.intro (by first | omega | rfl | assumption | decide) ?_)); (first | (refine hK _ _ ?_) | (refine ⟨_, rfl, hK _ _ ?_⟩) | (refine Or.inl (hK _ _ ?_))); clear hK K)
    | (with_reducible refine lops_nil ?_)
    | (with_reducible refine lavc_reg ?_)
    | (with_reducible refine lavc_seq ?_)
    | (with_reducible refine lavc_block ?_)
    | (with_reducible refine lavc_skip ?_)
    | (with_reducible refine lavc_exit ?_)
    | (with_reducible refine lavc_ret ?_)
    | (with_reducible refine lavcR_round ?_)
    | (simp only [↓reduceIte, Nat.reduceEqDiff, reduceCtorEq]))
  refine lavc_join mj32_1 (fun (_ : Unit) => True) (fun _ => []) (fun _ => [⟨ints .u64 s, 0, true, 55⟩, ⟨ints .u64 (List.replicate 8 0), 0, true, 55⟩, ⟨ints .u64 (grid0 s N last), 0, true, 66⟩]) ?_ ?_
  · refine lavc_cond rfl (fun hc => ?_) (fun hc => ?_) <;> try simp only [decide_eq_true_eq, decide_eq_false_iff_not, Int.not_lt, Int.not_le, beq_iff_eq, bne_iff_ne, bne_eq_false_iff_eq, beq_eq_false_iff_ne, ne_eq, Bool.not_eq_true', Bool.not_eq_false'] at hc
    · subst hc
      repeat (first
        | (with_reducible refine lops_step fun K hK => ?_; simp (disch := first | omega | (simp only [go_sem, isRow, isFlat, Option.isSome_some]; done) | assumption | (simp only [ints_length, List.length_replicate, List.length_set, List.length_append, List.length_take, List.length_drop, List.length_cons, List.length_nil] <;> omega) | fail) only [go_sem, Nat.reduceAdd, Nat.reduceSub, reduceIte, Nat.reduceEqDiff, Int.reduceToNat, Int.reduceBEq, Int.reduceBNe, nx]; (repeat (with_reducible refine And.intro (by first | omega | rfl | assumption | decide) ?_)); (first | (refine hK _ _ ?_) | (refine ⟨_, rfl, hK _ _ ?_⟩) | (refine Or.inl (hK _ _ ?_))); clear hK K)
        | (with_reducible refine lops_nil ?_)
        | (with_reducible refine lavc_reg ?_)
        | (with_reducible refine lavc_seq ?_)
        | (with_reducible refine lavc_block ?_)
        | (with_reducible refine lavc_skip ?_)
        | (with_reducible refine lavc_exit ?_)
        | (with_reducible refine lavc_ret ?_)
        | (with_reducible refine lavcR_round ?_)
        | (simp only [↓reduceIte, Nat.reduceEqDiff, reduceCtorEq]))
      refine ⟨(), trivial, ?_, by rw [hgrid]; rfl⟩
      simp only [mj32_1, putAll, blank, List.foldl_cons, List.foldl_nil, List.set_cons_succ, List.set_cons_zero, List.cons_append, List.nil_append, ALe, true_or, or_true, and_true, true_and, eq_self, reduceCtorEq, false_or]
    · subst hc
      repeat (first
        | (with_reducible refine lops_step fun K hK => ?_; simp (disch := first | omega | (simp only [go_sem, isRow, isFlat, Option.isSome_some]; done) | assumption | (simp only [ints_length, List.length_replicate, List.length_set, List.length_append, List.length_take, List.length_drop, List.length_cons, List.length_nil] <;> omega) | fail) only [go_sem, Nat.reduceAdd, Nat.reduceSub, reduceIte, Nat.reduceEqDiff, Int.reduceToNat, Int.reduceBEq, Int.reduceBNe]; (repeat (with_reducible refine And.intro (by first | omega | rfl | assumption | decide) ?_)); (first | (refine hK _ _ ?_) | (refine ⟨_, rfl, hK _ _ ?_⟩) | (refine Or.inl (hK _ _ ?_))); clear hK K)
        | (with_reducible refine lops_nil ?_)
        | (with_reducible refine lavc_reg ?_)
        | (with_reducible refine lavc_seq ?_)
        | (with_reducible refine lavc_block ?_)
        | (with_reducible refine lavc_skip ?_)
        | (with_reducible refine lavc_exit ?_)
        | (with_reducible refine lavc_ret ?_)
        | (with_reducible refine lavcR_round ?_)
        | (simp only [↓reduceIte, Nat.reduceEqDiff, reduceCtorEq]))
      refine ⟨(), trivial, ?_, by rw [hgrid]; rfl⟩
      simp only [mj32_1, putAll, blank, List.foldl_cons, List.foldl_nil, List.set_cons_succ, List.set_cons_zero, List.cons_append, List.nil_append, ALe, true_or, or_true, and_true, true_and, eq_self, reduceCtorEq, false_or]
  intro _ _
  simp only [mj32_1, putAll, blank, List.foldl_cons, List.foldl_nil, List.set_cons_succ, List.set_cons_zero, List.cons_append, List.nil_append]
  obtain ⟨G0, hG0⟩ : ∃ G0, grid0 s N last = G0 := ⟨_, rfl⟩
  rw [hG0] at wG nG ⊢
  repeat (first
    | (with_reducible refine lops_step fun K hK => ?_; simp (disch := first | omega | (simp only [go_sem, isRow, isFlat, Option.isSome_some]; done) | assumption | (simp only [ints_length, List.length_replicate, List.length_set, List.length_append, List.length_take, List.length_drop, List.length_cons, List.length_nil] <;> omega) | fail) only [go_sem, Nat.reduceAdd, Nat.reduceSub, reduceIte, Nat.reduceEqDiff, Int.reduceToNat, Int.reduceBEq, Int.reduceBNe]; (repeat (with_reducible refine And.intro (by first | omega | rfl | assumption | decide) ?_)); (first | (refine hK _ _ ?_) | (refine ⟨_, rfl, hK _ _ ?_⟩) | (refine Or.inl (hK _ _ ?_))); clear hK K)
    | (with_reducible refine lops_nil ?_)
    | (with_reducible refine lavc_reg ?_)
    | (with_reducible refine lavc_seq ?_)
    | (with_reducible refine lavc_block ?_)
    | (with_reducible refine lavc_skip ?_)
    | (with_reducible refine lavc_exit ?_)
    | (with_reducible refine lavc_ret ?_)
    | (with_reducible refine lavcR_round ?_)
    | (simp only [↓reduceIte, Nat.reduceEqDiff, reduceCtorEq]))
  refine lavc_loopM ms32_1 (fun m (x : Nat × AHeap) => m + x.1 = 12) (fun x => [(11, .v (.int .i64 x.1))]) (fun x => ⟨ints .u64 s, 0, true, 55⟩ :: ⟨ints .u64 (List.replicate 8 0), 0, true, 55⟩ :: ⟨ints .u64 (rnds b G0 x.1), 0, true, 66⟩ :: x.2) 12 (0, []) rfl ?_ rfl ?_
  · simp only [ms32_1, putAll, blank, List.foldl_cons, List.foldl_nil, List.set_cons_succ, List.set_cons_zero, List.cons_append, List.nil_append, ALe, true_or, or_true, and_true, true_and, eq_self, reduceCtorEq, false_or]
    rfl
  rintro m ⟨i, rest⟩ hi
  simp only at hi
  simp only [ms32_1, putAll, blank, List.foldl_cons, List.foldl_nil, List.set_cons_succ, List.set_cons_zero, List.cons_append, List.nil_append]
  repeat (first
    | (with_reducible refine lops_step fun K hK => ?_; simp (disch := first | omega | (simp only [go_sem, isRow, isFlat, Option.isSome_some]; done) | assumption | (simp only [ints_length, List.length_replicate, List.length_set, List.length_append, List.length_take, List.length_drop, List.length_cons, List.length_nil] <;> omega) | fail) only [go_sem, Nat.reduceAdd, Nat.reduceSub, reduceIte, Nat.reduceEqDiff, Int.reduceToNat, Int.reduceBEq, Int.reduceBNe]; (repeat (with_reducible refine And.intro (by first | omega | rfl | assumption | decide) ?_)); (first | (refine hK _ _ ?_) | (refine ⟨_, rfl, hK _ _ ?_⟩) | (refine Or.inl (hK _ _ ?_))); clear hK K)
    | (with_reducible refine lops_nil ?_)
    | (with_reducible refine lavc_reg ?_)
    | (with_reducible refine lavc_seq ?_)
    | (with_reducible refine lavc_block ?_)
    | (with_reducible refine lavc_skip ?_)
    | (with_reducible refine lavc_exit ?_)
    | (with_reducible refine lavc_ret ?_)
    | (with_reducible refine lavcR_round ?_)
    | (simp only [↓reduceIte, Nat.reduceEqDiff, reduceCtorEq]))
  refine lavc_cond rfl (fun hc => ?_) (fun hc => ?_) <;> try simp only [decide_eq_true_eq, decide_eq_false_iff_not, Int.not_lt, Int.not_le, beq_iff_eq, bne_iff_ne, bne_eq_false_iff_eq, beq_eq_false_iff_ne, ne_eq, Bool.not_eq_true', Bool.not_eq_false'] at hc
  · have e1 : (i : Int).tmod 10 = ((i % 10 : Nat) : Int) := tmodN i 10
    have hi10 : i % 10 < 10 := Nat.mod_lt _ (by decide)
    have e2 := i64n ((i : Int) + 1) (i + 1) (by omega) (by omega)
    have hrow := turn_row (i % 10) hi10
    have hrl : ((turnsL.drop (i % 10 * 16)).take 16).length = 16 := by rw [List.length_take, List.length_drop, t1]; omega
    obtain ⟨V, hV⟩ : ∃ V, rnds b G0 i = V := ⟨_, rfl⟩
    have wV : W64 V := hV ▸ wG.rnds i
    have nV : V.length = 16 := by rw [← hV, rnds_length, nG]
    have hV1 : rnds b G0 (i + 1) = half b V (i % 10) 8 := by rw [← hV]; rfl
    rw [hV]
    repeat (first
      | (with_reducible refine lops_step fun K hK => ?_; simp (disch := first | omega | (simp only [go_sem, isRow, isFlat, Option.isSome_some]; done) | assumption | (simp only [ints_length, List.length_replicate, List.length_set, List.length_append, List.length_take, List.length_drop, List.length_cons, List.length_nil] <;> omega) | fail) only [go_sem, Nat.reduceAdd, Nat.reduceSub, reduceIte, Nat.reduceEqDiff, Int.reduceToNat, Int.reduceBEq, Int.reduceBNe, e1, l1, t1]; (repeat (with_reducible refine And.intro (by first | omega | rfl | assumption | decide) ?_)); (first | (refine hK _ _ ?_) | (refine ⟨_, rfl, hK _ _ ?_⟩) | (refine Or.inl (hK _ _ ?_))); clear hK K)
      | (with_reducible refine lops_nil ?_)
      | (with_reducible refine lavc_reg ?_)
      | (with_reducible refine lavc_seq ?_)
      | (with_reducible refine lavc_block ?_)
      | (with_reducible refine lavc_skip ?_)
      | (with_reducible refine lavc_exit ?_)
      | (with_reducible refine lavc_ret ?_)
      | (with_reducible refine lavcR_round ?_)
      | (simp only [↓reduceIte, Nat.reduceEqDiff, reduceCtorEq]))
    refine lavc_fz [rest.length + 1 + 1 + 1] ?_
    simp (disch := first | omega | (simp only [go_sem, isRow, isFlat, Option.isSome_some]; done) | assumption | (simp only [ints_length, List.length_replicate, List.length_set, List.length_append, List.length_take, List.length_drop, List.length_cons, List.length_nil] <;> omega) | fail) only [afz, fzV, fzS, fz_ints, List.map_cons, List.map_nil, List.getElem?_cons_zero, List.getElem?_cons_succ, List.set_cons_zero, List.set_cons_succ, ints_length, true_and, and_true, and_self, if_true, if_false, ↓reduceIte, Nat.reduceEqDiff, Nat.reduceLeDiff, Nat.reduceMul, Nat.reduceAdd, Nat.zero_add, Nat.mul_one, Nat.le_refl, List.length_replicate, List.drop_zero, ints_drop, ints_take, List.take_of_length_le, false_and, and_false, reduceCtorEq, Bool.false_eq_true, forall_const, if_pos, if_neg, get_concat, set_concat]
    (repeat (with_reducible refine And.intro (by first | omega | rfl | assumption | decide) ?_))
    refine lavc_loopM ms32_2 (fun m (k : Nat) => m + k = 4) (fun k => [(13, .v (.int .i64 k))]) (fun k => ⟨ints .u64 s, 0, true, 55⟩ :: ⟨ints .u64 (List.replicate 8 0), 0, true, 55⟩ :: ⟨ints .u64 (half b V (i % 10) k), 0, true, 66⟩ :: (rest ++ [_])) 4 0 rfl ?_ rfl ?_
    · simp only [ms32_2, putAll, blank, List.foldl_cons, List.foldl_nil, List.set_cons_succ, List.set_cons_zero, List.cons_append, List.nil_append, ALe, true_or, or_true, and_true, true_and, eq_self, reduceCtorEq, false_or]
      rfl
    · intro m2 k hk
      simp only [ms32_2, putAll, blank, List.foldl_cons, List.foldl_nil, List.set_cons_succ, List.set_cons_zero, List.cons_append, List.nil_append]
      have nh : (half b V (i % 10) k).length = 16 := by rw [half_length, nV]
      repeat (first
        | (with_reducible refine lops_step fun K hK => ?_; simp (disch := first | omega | (simp only [go_sem, isRow, isFlat, Option.isSome_some]; done) | assumption | (simp only [ints_length, List.length_replicate, List.length_set, List.length_append, List.length_take, List.length_drop, List.length_cons, List.length_nil] <;> omega) | fail) only [go_sem, Nat.reduceAdd, Nat.reduceSub, reduceIte, Nat.reduceEqDiff, Int.reduceToNat, Int.reduceBEq, Int.reduceBNe]; (repeat (with_reducible refine And.intro (by first | omega | rfl | assumption | decide) ?_)); (first | (refine hK _ _ ?_) | (refine ⟨_, rfl, hK _ _ ?_⟩) | (refine Or.inl (hK _ _ ?_))); clear hK K)
        | (with_reducible refine lops_nil ?_)
        | (with_reducible refine lavc_reg ?_)
        | (with_reducible refine lavc_seq ?_)
        | (with_reducible refine lavc_block ?_)
        | (with_reducible refine lavc_skip ?_)
        | (with_reducible refine lavc_exit ?_)
        | (with_reducible refine lavc_ret ?_)
        | (with_reducible refine lavcR_round ?_)
        | (simp only [↓reduceIte, Nat.reduceEqDiff, reduceCtorEq]))
      refine lavc_cond rfl (fun hc => ?_) (fun hc => ?_) <;> try simp only [decide_eq_true_eq, decide_eq_false_iff_not, Int.not_lt, Int.not_le, beq_iff_eq, bne_iff_ne, bne_eq_false_iff_eq, beq_eq_false_iff_ne, ne_eq, Bool.not_eq_true', Bool.not_eq_false'] at hc
      · have q0 := hrow (2 * k) (by omega)
        have q1 := hrow (2 * k + 1) (by omega)
        have e3 := i64n (2 * (k : Int)) (2 * k) (by omega) (by omega)
        have e4 := i64n (((2 * k : Nat) : Int) + 1) (2 * k + 1) (by omega) (by omega)
        have e5 := i64n ((k : Int) + 1) (k + 1) (by omega) (by omega)
        have e6 := i64n (4 + (k : Int)) (4 + k) (by omega) (by omega)
        have e7 := i64n (8 + (k : Int)) (8 + k) (by omega) (by omega)
        have e8 := i64n (12 + (k : Int)) (12 + k) (by omega) (by omega)
        have r0 := trn_lt (i % 10) hi10 (2 * k) (by omega)
        have r1 := trn_lt (i % 10) hi10 (2 * k + 1) (by omega)
        have e9 := i64n (8 * (trn (i % 10) (2 * k) : Int)) (8 * trn (i % 10) (2 * k)) (by omega) (by omega)
        have e10 := i64n (8 * (trn (i % 10) (2 * k + 1) : Int)) (8 * trn (i % 10) (2 * k + 1)) (by omega) (by omega)
        have cw0 := Word_p b cx nb hnb _ r0 hb hlb
        have cw1 := Word_p b cx nb hnb _ r1 hb hlb
        have cm := refMix_p (half b V (i % 10) k) k (4 + k) (8 + k) (12 + k) (wd b (trn (i % 10) (2 * k))) (wd b (trn (i % 10) (2 * k + 1))) nh (wV.half _ _) (by omega) (by omega) (by omega) (by omega)
        have hs1 : gmix (half b V (i % 10) k) k (4 + k) (8 + k) (12 + k) (wd b (trn (i % 10) (2 * k))) (wd b (trn (i % 10) (2 * k + 1))) = half b V (i % 10) (k + 1) := by
          obtain ⟨p0, p1, p2, p3⟩ := pl_col k (by omega)
          rw [half, p0, p1, p2, p3]
        rw [hs1] at cm
        have nh2 : (half b V (i % 10) (k + 1)).length = 16 := by rw [half_length, nV]
        repeat (first
          | (with_reducible refine lops_step fun K hK => ?_; simp (disch := first | omega | (simp only [go_sem, isRow, isFlat, Option.isSome_some]; done) | assumption | (simp only [ints_length, List.length_replicate, List.length_set, List.length_append, List.length_take, List.length_drop, List.length_cons, List.length_nil] <;> omega) | fail) only [go_sem, Nat.reduceAdd, Nat.reduceSub, reduceIte, Nat.reduceEqDiff, Int.reduceToNat, Int.reduceBEq, Int.reduceBNe, q0, q1, e3, e4, e5, e6, e7, e8, e9, e10, hrl]; (repeat (with_reducible refine And.intro (by first | omega | rfl | assumption | decide) ?_)); (first | (refine hK _ _ ?_) | (refine ⟨_, rfl, hK _ _ ?_⟩) | (refine Or.inl (hK _ _ ?_)) | (refine ⟨_, _, Or.inl (cw0.go _), (by first | exact ⟨[], (List.append_nil _).symm⟩ | exact ⟨_, rfl⟩), hK _ _ ?_⟩) | (refine ⟨_, _, Or.inl (cw0.go _), hK _ _ ?_⟩) | (refine ⟨_, _, Or.inl (cw0.go _).weakQ, hK _ _ ?_⟩) | (refine ⟨_, _, Or.inl (cw1.go _), (by first | exact ⟨[], (List.append_nil _).symm⟩ | exact ⟨_, rfl⟩), hK _ _ ?_⟩) | (refine ⟨_, _, Or.inl (cw1.go _), hK _ _ ?_⟩) | (refine ⟨_, _, Or.inl (cw1.go _).weakQ, hK _ _ ?_⟩) | (refine ⟨_, _, Or.inl (cm.go _), (by first | exact ⟨[], (List.append_nil _).symm⟩ | exact ⟨_, rfl⟩), hK _ _ ?_⟩) | (refine ⟨_, _, Or.inl (cm.go _), hK _ _ ?_⟩) | (refine ⟨_, _, Or.inl (cm.go _).weakQ, hK _ _ ?_⟩)); clear hK K)
          | (with_reducible refine lops_nil ?_)
          | (with_reducible refine lavc_reg ?_)
          | (with_reducible refine lavc_seq ?_)
          | (with_reducible refine lavc_block ?_)
          | (with_reducible refine lavc_skip ?_)
          | (with_reducible refine lavc_exit ?_)
          | (with_reducible refine lavc_ret ?_)
          | (with_reducible refine lavcR_round ?_)
          | (simp only [↓reduceIte, Nat.reduceEqDiff, reduceCtorEq]))
        refine ⟨m2 - 1, k + 1, by omega, by omega, ?_, rfl⟩
        simp only [ms32_2, putAll, blank, List.foldl_cons, List.foldl_nil, List.set_cons_succ, List.set_cons_zero, List.cons_append, List.nil_append, ALe, true_or, or_true, and_true, true_and, eq_self, reduceCtorEq, false_or]
      obtain rfl : k = 4 := by omega
      repeat (first
        | (with_reducible refine lops_step fun K hK => ?_; simp (disch := first | omega | (simp only [go_sem, isRow, isFlat, Option.isSome_some]; done) | assumption | (simp only [ints_length, List.length_replicate, List.length_set, List.length_append, List.length_take, List.length_drop, List.length_cons, List.length_nil] <;> omega) | fail) only [go_sem, Nat.reduceAdd, Nat.reduceSub, reduceIte, Nat.reduceEqDiff, Int.reduceToNat, Int.reduceBEq, Int.reduceBNe]; (repeat (with_reducible refine And.intro (by first | omega | rfl | assumption | decide) ?_)); (first | (refine hK _ _ ?_) | (refine ⟨_, rfl, hK _ _ ?_⟩) | (refine Or.inl (hK _ _ ?_))); clear hK K)
        | (with_reducible refine lops_nil ?_)
        | (with_reducible refine lavc_reg ?_)
        | (with_reducible refine lavc_seq ?_)
        | (with_reducible refine lavc_block ?_)
        | (with_reducible refine lavc_skip ?_)
        | (with_reducible refine lavc_exit ?_)
        | (with_reducible refine lavc_ret ?_)
        | (with_reducible refine lavcR_round ?_)
        | (simp only [↓reduceIte, Nat.reduceEqDiff, reduceCtorEq]))
      refine lavc_loopM ms32_3 (fun m (k : Nat) => m + k = 4) (fun k => [(14, .v (.int .i64 k))]) (fun k => ⟨ints .u64 s, 0, true, 55⟩ :: ⟨ints .u64 (List.replicate 8 0), 0, true, 55⟩ :: ⟨ints .u64 (half b V (i % 10) (4 + k)), 0, true, 66⟩ :: (rest ++ [_])) 4 0 rfl ?_ rfl ?_
      · simp only [ms32_2, ms32_3, putAll, blank, List.foldl_cons, List.foldl_nil, List.set_cons_succ, List.set_cons_zero, List.cons_append, List.nil_append, ALe, true_or, or_true, and_true, true_and, eq_self, reduceCtorEq, false_or]
        rfl
      intro m2 k hk
      simp only [ms32_3, putAll, blank, List.foldl_cons, List.foldl_nil, List.set_cons_succ, List.set_cons_zero, List.cons_append, List.nil_append]
      have nh : (half b V (i % 10) (4 + k)).length = 16 := by rw [half_length, nV]
      repeat (first
        | (with_reducible refine lops_step fun K hK => ?_; simp (disch := first | omega | (simp only [go_sem, isRow, isFlat, Option.isSome_some]; done) | assumption | (simp only [ints_length, List.length_replicate, List.length_set, List.length_append, List.length_take, List.length_drop, List.length_cons, List.length_nil] <;> omega) | fail) only [go_sem, Nat.reduceAdd, Nat.reduceSub, reduceIte, Nat.reduceEqDiff, Int.reduceToNat, Int.reduceBEq, Int.reduceBNe]; (repeat (with_reducible refine And.intro (by first | omega | rfl | assumption | decide) ?_)); (first | (refine hK _ _ ?_) | (refine ⟨_, rfl, hK _ _ ?_⟩) | (refine Or.inl (hK _ _ ?_))); clear hK K)
        | (with_reducible refine lops_nil ?_)
        | (with_reducible refine lavc_reg ?_)
        | (with_reducible refine lavc_seq ?_)
        | (with_reducible refine lavc_block ?_)
        | (with_reducible refine lavc_skip ?_)
        | (with_reducible refine lavc_exit ?_)
        | (with_reducible refine lavc_ret ?_)
        | (with_reducible refine lavcR_round ?_)
        | (simp only [↓reduceIte, Nat.reduceEqDiff, reduceCtorEq]))
      refine lavc_cond rfl (fun hc => ?_) (fun hc => ?_) <;> try simp only [decide_eq_true_eq, decide_eq_false_iff_not, Int.not_lt, Int.not_le, beq_iff_eq, bne_iff_ne, bne_eq_false_iff_eq, beq_eq_false_iff_ne, ne_eq, Bool.not_eq_true', Bool.not_eq_false'] at hc
      · have q0 := hrow (8 + 2 * k) (by omega)
        have q1 := hrow (9 + 2 * k) (by omega)
        have e3 := i64n (2 * (k : Int)) (2 * k) (by omega) (by omega)
        have e4 := i64n (8 + ((2 * k : Nat) : Int)) (8 + 2 * k) (by omega) (by omega)
        have e4' := i64n (9 + ((2 * k : Nat) : Int)) (9 + 2 * k) (by omega) (by omega)
        have e5 := i64n ((k : Int) + 1) (k + 1) (by omega) (by omega)
        have e52 := i64n ((k : Int) + 2) (k + 2) (by omega) (by omega)
        have e53 := i64n ((k : Int) + 3) (k + 3) (by omega) (by omega)
        have m1 : ((k + 1 : Nat) : Int).tmod 4 = (((k + 1) % 4 : Nat) : Int) := tmodN _ 4
        have m2' : ((k + 2 : Nat) : Int).tmod 4 = (((k + 2) % 4 : Nat) : Int) := tmodN _ 4
        have m3 : ((k + 3 : Nat) : Int).tmod 4 = (((k + 3) % 4 : Nat) : Int) := tmodN _ 4
        have e6 := i64n (4 + (((k + 1) % 4 : Nat) : Int)) (4 + (k + 1) % 4) (by omega) (by omega)
        have e7 := i64n (8 + (((k + 2) % 4 : Nat) : Int)) (8 + (k + 2) % 4) (by omega) (by omega)
        have e8 := i64n (12 + (((k + 3) % 4 : Nat) : Int)) (12 + (k + 3) % 4) (by omega) (by omega)
        have r0 := trn_lt (i % 10) hi10 (8 + 2 * k) (by omega)
        have r1 := trn_lt (i % 10) hi10 (9 + 2 * k) (by omega)
        have e9 := i64n (8 * (trn (i % 10) (8 + 2 * k) : Int)) (8 * trn (i % 10) (8 + 2 * k)) (by omega) (by omega)
        have e10 := i64n (8 * (trn (i % 10) (9 + 2 * k) : Int)) (8 * trn (i % 10) (9 + 2 * k)) (by omega) (by omega)
        have cw0 := Word_p b cx nb hnb _ r0 hb hlb
        have cw1 := Word_p b cx nb hnb _ r1 hb hlb
        have cm := refMix_p (half b V (i % 10) (4 + k)) k (4 + (k + 1) % 4) (8 + (k + 2) % 4) (12 + (k + 3) % 4) (wd b (trn (i % 10) (8 + 2 * k))) (wd b (trn (i % 10) (9 + 2 * k))) nh (wV.half _ _) (by omega) (by omega) (by omega) (by omega)
        have hs1 : gmix (half b V (i % 10) (4 + k)) k (4 + (k + 1) % 4) (8 + (k + 2) % 4) (12 + (k + 3) % 4) (wd b (trn (i % 10) (8 + 2 * k))) (wd b (trn (i % 10) (9 + 2 * k))) = half b V (i % 10) (4 + (k + 1)) := by
          obtain ⟨p0, p1, p2, p3⟩ := pl_dia k (by omega)
          rw [show 4 + (k + 1) = (4 + k) + 1 from by omega, half, p0, p1, p2, p3, show 2 * (4 + k) = 8 + 2 * k from by omega, show 8 + 2 * k + 1 = 9 + 2 * k from by omega]
        rw [hs1] at cm
        have nh2 : (half b V (i % 10) (4 + (k + 1))).length = 16 := by rw [half_length, nV]
        repeat (first
          | (with_reducible refine lops_step fun K hK => ?_; simp (disch := first | omega | (simp only [go_sem, isRow, isFlat, Option.isSome_some]; done) | assumption | (simp only [ints_length, List.length_replicate, List.length_set, List.length_append, List.length_take, List.length_drop, List.length_cons, List.length_nil] <;> omega) | fail) only [go_sem, Nat.reduceAdd, Nat.reduceSub, reduceIte, Nat.reduceEqDiff, Int.reduceToNat, Int.reduceBEq, Int.reduceBNe, q0, q1, e3, e4, e4', e5, e52, e53, m1, m2', m3, e6, e7, e8, e9, e10, hrl]; (repeat (with_reducible refine And.intro (by first | omega | rfl | assumption | decide) ?_)); (first | (refine hK _ _ ?_) | (refine ⟨_, rfl, hK _ _ ?_⟩) | (refine Or.inl (hK _ _ ?_)) | (refine ⟨_, _, Or.inl (cw0.go _), (by first | exact ⟨[], (List.append_nil _).symm⟩ | exact ⟨_, rfl⟩), hK _ _ ?_⟩) | (refine ⟨_, _, Or.inl (cw0.go _), hK _ _ ?_⟩) | (refine ⟨_, _, Or.inl (cw0.go _).weakQ, hK _ _ ?_⟩) | (refine ⟨_, _, Or.inl (cw1.go _), (by first | exact ⟨[], (List.append_nil _).symm⟩ | exact ⟨_, rfl⟩), hK _ _ ?_⟩) | (refine ⟨_, _, Or.inl (cw1.go _), hK _ _ ?_⟩) | (refine ⟨_, _, Or.inl (cw1.go _).weakQ, hK _ _ ?_⟩) | (refine ⟨_, _, Or.inl (cm.go _), (by first | exact ⟨[], (List.append_nil _).symm⟩ | exact ⟨_, rfl⟩), hK _ _ ?_⟩) | (refine ⟨_, _, Or.inl (cm.go _), hK _ _ ?_⟩) | (refine ⟨_, _, Or.inl (cm.go _).weakQ, hK _ _ ?_⟩)); clear hK K)
          | (with_reducible refine lops_nil ?_)
          | (with_reducible refine lavc_reg ?_)
          | (with_reducible refine lavc_seq ?_)
          | (with_reducible refine lavc_block ?_)
          | (with_reducible refine lavc_skip ?_)
          | (with_reducible refine lavc_exit ?_)
          | (with_reducible refine lavc_ret ?_)
          | (with_reducible refine lavcR_round ?_)
          | (simp only [↓reduceIte, Nat.reduceEqDiff, reduceCtorEq]))
        refine ⟨m2 - 1, k + 1, by omega, by omega, ?_, rfl⟩
        simp only [ms32_3, putAll, blank, List.foldl_cons, List.foldl_nil, List.set_cons_succ, List.set_cons_zero, List.cons_append, List.nil_append, ALe, true_or, or_true, and_true, true_and, eq_self, reduceCtorEq, false_or]
      obtain rfl : k = 4 := by omega
      repeat (first
        | (with_reducible refine lops_step fun K hK => ?_; simp (disch := first | omega | (simp only [go_sem, isRow, isFlat, Option.isSome_some]; done) | assumption | (simp only [ints_length, List.length_replicate, List.length_set, List.length_append, List.length_take, List.length_drop, List.length_cons, List.length_nil] <;> omega) | fail) only [go_sem, Nat.reduceAdd, Nat.reduceSub, reduceIte, Nat.reduceEqDiff, Int.reduceToNat, Int.reduceBEq, Int.reduceBNe, e2]; (repeat (with_reducible refine And.intro (by first | omega | rfl | assumption | decide) ?_)); (first | (refine hK _ _ ?_) | (refine ⟨_, rfl, hK _ _ ?_⟩) | (refine Or.inl (hK _ _ ?_))); clear hK K)
        | (with_reducible refine lops_nil ?_)
        | (with_reducible refine lavc_reg ?_)
        | (with_reducible refine lavc_seq ?_)
        | (with_reducible refine lavc_block ?_)
        | (with_reducible refine lavc_skip ?_)
        | (with_reducible refine lavc_exit ?_)
        | (with_reducible refine lavc_ret ?_)
        | (with_reducible refine lavcR_round ?_)
        | (simp only [↓reduceIte, Nat.reduceEqDiff, reduceCtorEq]))
      refine ⟨m - 1, (i + 1, rest ++ [_]), by omega, by simp only; omega, ?_, by simp only; rw [hV1]⟩
      simp only [ms32_3, ms32_2, ms32_1, putAll, blank, List.foldl_cons, List.foldl_nil, List.set_cons_succ, List.set_cons_zero, List.cons_append, List.nil_append, ALe, true_or, or_true, and_true, true_and, eq_self, reduceCtorEq, false_or]
  obtain rfl : i = 12 := by omega
  obtain ⟨V, hV⟩ : ∃ V, rnds b G0 12 = V := ⟨_, rfl⟩
  have wV : W64 V := hV ▸ wG.rnds 12
  have nV : V.length = 16 := by rw [← hV, rnds_length, nG]
  have hend : blkP s b N last = outN s V 8 := by rw [← hV, ← hG0]; rfl
  rw [hV, hend]
  repeat (first
    | (with_reducible refine lops_step fun K hK => ?_; simp (disch := first | omega | (simp only [go_sem, isRow, isFlat, Option.isSome_some]; done) | assumption | (simp only [ints_length, List.length_replicate, List.length_set, List.length_append, List.length_take, List.length_drop, List.length_cons, List.length_nil] <;> omega) | fail) only [go_sem, Nat.reduceAdd, Nat.reduceSub, reduceIte, Nat.reduceEqDiff, Int.reduceToNat, Int.reduceBEq, Int.reduceBNe]; (repeat (with_reducible refine And.intro (by first | omega | rfl | assumption | decide) ?_)); (first | (refine hK _ _ ?_) | (refine ⟨_, rfl, hK _ _ ?_⟩) | (refine Or.inl (hK _ _ ?_))); clear hK K)
    | (with_reducible refine lops_nil ?_)
    | (with_reducible refine lavc_reg ?_)
    | (with_reducible refine lavc_seq ?_)
    | (with_reducible refine lavc_block ?_)
    | (with_reducible refine lavc_skip ?_)
    | (with_reducible refine lavc_exit ?_)
    | (with_reducible refine lavc_ret ?_)
    | (with_reducible refine lavcR_round ?_)
    | (simp only [↓reduceIte, Nat.reduceEqDiff, reduceCtorEq]))
  refine lavc_loopM ms32_4 (fun m (k : Nat) => m + k = 8) (fun k => [(15, .v (.int .i64 k))]) (fun k => ⟨ints .u64 (outN s V k), 0, true, 55⟩ :: ⟨ints .u64 (List.replicate 8 0), 0, true, 55⟩ :: ⟨ints .u64 V, 0, true, 66⟩ :: rest) 8 0 rfl ?_ (by rw [outN_zero]) ?_
  · simp only [ms32_4, putAll, blank, List.foldl_cons, List.foldl_nil, List.set_cons_succ, List.set_cons_zero, List.cons_append, List.nil_append, ALe, true_or, or_true, and_true, true_and, eq_self, reduceCtorEq, false_or]
    rfl
  intro m2 k hk
  simp only [ms32_4, putAll, blank, List.foldl_cons, List.foldl_nil, List.set_cons_succ, List.set_cons_zero, List.cons_append, List.nil_append]
  have no : (outN s V k).length = 8 := by rw [outN_length, hs]
  repeat (first
    | (with_reducible refine lops_step fun K hK => ?_; simp (disch := first | omega | (simp only [go_sem, isRow, isFlat, Option.isSome_some]; done) | assumption | (simp only [ints_length, List.length_replicate, List.length_set, List.length_append, List.length_take, List.length_drop, List.length_cons, List.length_nil] <;> omega) | fail) only [go_sem, Nat.reduceAdd, Nat.reduceSub, reduceIte, Nat.reduceEqDiff, Int.reduceToNat, Int.reduceBEq, Int.reduceBNe]; (repeat (with_reducible refine And.intro (by first | omega | rfl | assumption | decide) ?_)); (first | (refine hK _ _ ?_) | (refine ⟨_, rfl, hK _ _ ?_⟩) | (refine Or.inl (hK _ _ ?_))); clear hK K)
    | (with_reducible refine lops_nil ?_)
    | (with_reducible refine lavc_reg ?_)
    | (with_reducible refine lavc_seq ?_)
    | (with_reducible refine lavc_block ?_)
    | (with_reducible refine lavc_skip ?_)
    | (with_reducible refine lavc_exit ?_)
    | (with_reducible refine lavc_ret ?_)
    | (with_reducible refine lavcR_round ?_)
    | (simp only [↓reduceIte, Nat.reduceEqDiff, reduceCtorEq]))
  refine lavc_cond rfl (fun hc => ?_) (fun hc => ?_) <;> try simp only [decide_eq_true_eq, decide_eq_false_iff_not, Int.not_lt, Int.not_le, beq_iff_eq, bne_iff_ne, bne_eq_false_iff_eq, beq_eq_false_iff_ne, ne_eq, Bool.not_eq_true', Bool.not_eq_false'] at hc
  · have e5 := i64n ((k : Int) + 1) (k + 1) (by omega) (by omega)
    have e6 := i64n ((k : Int) + 8) (k + 8) (by omega) (by omega)
    have o0 := outN_get s V k
    have o1 := outN_step s V k
    have y1 := xor64_p (s.getD k 0) (V.getD k 0) (ws.get k) (wV.get k)
    have y2 := xor64_p (xor64 (s.getD k 0) (V.getD k 0)) (V.getD (k + 8) 0) ((ws.get k).xor (wV.get k)) (wV.get (k + 8))
    repeat (first
      | (with_reducible refine lops_step fun K hK => ?_; simp (disch := first | omega | (simp only [go_sem, isRow, isFlat, Option.isSome_some]; done) | assumption | (simp only [ints_length, List.length_replicate, List.length_set, List.length_append, List.length_take, List.length_drop, List.length_cons, List.length_nil] <;> omega) | fail) only [go_sem, Nat.reduceAdd, Nat.reduceSub, reduceIte, Nat.reduceEqDiff, Int.reduceToNat, Int.reduceBEq, Int.reduceBNe, e5, e6, o0, y1, y2, o1]; (repeat (with_reducible refine And.intro (by first | omega | rfl | assumption | decide) ?_)); (first | (refine hK _ _ ?_) | (refine ⟨_, rfl, hK _ _ ?_⟩) | (refine Or.inl (hK _ _ ?_))); clear hK K)
      | (with_reducible refine lops_nil ?_)
      | (with_reducible refine lavc_reg ?_)
      | (with_reducible refine lavc_seq ?_)
      | (with_reducible refine lavc_block ?_)
      | (with_reducible refine lavc_skip ?_)
      | (with_reducible refine lavc_exit ?_)
      | (with_reducible refine lavc_ret ?_)
      | (with_reducible refine lavcR_round ?_)
      | (simp only [↓reduceIte, Nat.reduceEqDiff, reduceCtorEq]))
    refine ⟨m2 - 1, k + 1, by omega, by omega, ?_, rfl⟩
    simp only [ms32_4, putAll, blank, List.foldl_cons, List.foldl_nil, List.set_cons_succ, List.set_cons_zero, List.cons_append, List.nil_append, ALe, true_or, or_true, and_true, true_and, eq_self, reduceCtorEq, false_or]
  obtain rfl : k = 8 := by omega
  repeat (first
    | (with_reducible refine lops_step fun K hK => ?_; simp (disch := first | omega | (simp only [go_sem, isRow, isFlat, Option.isSome_some]; done) | assumption | (simp only [ints_length, List.length_replicate, List.length_set, List.length_append, List.length_take, List.length_drop, List.length_cons, List.length_nil] <;> omega) | fail) only [go_sem, Nat.reduceAdd, Nat.reduceSub, reduceIte, Nat.reduceEqDiff, Int.reduceToNat, Int.reduceBEq, Int.reduceBNe]; (repeat (with_reducible refine And.intro (by first | omega | rfl | assumption | decide) ?_)); (first | (refine hK _ _ ?_) | (refine ⟨_, rfl, hK _ _ ?_⟩) | (refine Or.inl (hK _ _ ?_))); clear hK K)
    | (with_reducible refine lops_nil ?_)
    | (with_reducible refine lavc_reg ?_)
    | (with_reducible refine lavc_seq ?_)
    | (with_reducible refine lavc_block ?_)
    | (with_reducible refine lavc_skip ?_)
    | (with_reducible refine lavc_exit ?_)
    | (with_reducible refine lavc_ret ?_)
    | (with_reducible refine lavcR_round ?_)
    | (simp only [↓reduceIte, Nat.reduceEqDiff, reduceCtorEq]))
  refine And.intro (by simp) ?_
  simp (disch := first | omega | (simp only [go_sem, isRow, isFlat, Option.isSome_some]; done) | assumption | (simp only [ints_length, List.length_replicate, List.length_set, List.length_append, List.length_take, List.length_drop, List.length_cons, List.length_nil] <;> omega) | fail) only [go_sem, Nat.reduceAdd, Nat.reduceSub, reduceIte, Nat.reduceEqDiff, Int.reduceToNat, Int.reduceBEq, Int.reduceBNe, aret, aretL, aret1, aenv]
  (repeat (with_reducible refine And.intro (by first | omega | rfl | assumption | decide) ?_))
  exact end0 (NR.agg (NR.ints _ _)) rfl
end Go.Abs.S
