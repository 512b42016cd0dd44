/- hour: a time's moment. -/
import Derived.Test.YtjmalnoehmgenaaDoorHouF
namespace Go.Abs.S
attribute [local go_sem] lguard aopO aop nxL aenv toAV tput aLoad aStore vcells aBin aNilI aUn aAlloc aBox aBuild aBSlice afill aConv isIntT aappZ aCap aArr aMM aMake aSlice bnd3 bnd aFldAddr aFld aIdxAddr aIdx aExt aLen aCopy aEq0 bAV aUb aapp aappQ agh acont List.getD_cons_zero List.getD_cons_succ List.set_cons_zero List.set_cons_succ List.getElem?_cons_zero List.getElem?_cons_succ List.length_cons List.length_nil List.map_cons List.map_nil ints_length if_true if_false Bool.false_eq_true true_and and_true eq_self ne_eq not_false_eq_true not_true_eq_false beq_self_eq_true Nat.zero_add Nat.add_zero Nat.mul_one Nat.zero_mul Int.toNat_natCast List.toList_toArray List.all_cons List.all_nil AV.one Value.oneCell' Bool.and_true Bool.true_and forall_const true_implies false_implies implies_true Option.map_some Option.map_none Option.isSome_some Option.isSome_none imp_self rdP_flat rdP_row splice_one ints_set ints_get List.append_nil List.cons_append List.nil_append List.getElem?_toArray List.drop_zero ints_drop ints_take List.take_of_length_le splice_all ints_one Option.some.injEq Option.getD_some List.length_replicate zArr List.map_replicate rep_ints splice_intsR List.length_set List.length_append List.flatten_replicate_singleton rep_slice rep_string rep_bool rep_iface List.replicate_zero if_pos if_neg List.mapM_cons List.mapM_nil Option.pure_def Option.bind_eq_bind Option.bind_some Bool.true_eq_false Bool.not_false Bool.not_true get_concat set_concat
open Go.Proofs
open Go.Abs.H
set_option linter.unusedVariables false
set_option linter.unusedSimpArgs false
set_option maxRecDepth 100000
set_option maxHeartbeats 2000000
theorem ahead_366 (k : Nat) : aheadY k ≤ 366 * k := by
  unfold aheadY
  omega
theorem of_p (t : Mom) (ht : t.ok) : PCall Tryd.prog glob 25 [iv (secs t)] (mv t) := by
  refine PCall.of ctx.nr (by (repeat (refine List.forall_mem_cons.2 (And.intro (by first | exact NR.v _ | exact NR.agg (NR.ints _ _) | exact NR.vsl (NR.ints _ _) | exact NR.vptr (NR.ints _ _) | assumption) ?_))); exact fun _ h => absurd h List.not_mem_nil) (NR.mv t) ?_
  refine lcall25 (by simp) 0 (Nat.le_refl _) ?_
  unfold lc25
  simp only [List.length_cons, List.length_nil, Nat.reduceAdd, Nat.reduceSub, List.replicate_succ, List.replicate_zero, List.cons_append, List.nil_append]
  have hp := secs_parts ht
  have hin := secs_in ht
  obtain ⟨hx, hh⟩ := ht
  have hyr := day_year hx
  have ha := hx.all
  have hdb := day_bound hx
  have hdd : dayN t.x = aheadY t.x.y + msum t.x.y (t.x.m - 1).toNat + t.x.d - 1 := rfl
  have hdm := hx.2
  unfold tFirst tLast at hin
  obtain ⟨N, hN⟩ : ∃ N : Nat, secs t + 62167219200 = N := ⟨(secs t + 62167219200).toNat, by omega⟩
  rw [hN] at hp
  obtain ⟨⟨y0, m0, d⟩, h, i, s⟩ := t
  simp only at hp hh hyr ha hdd hdb hdm
  obtain ⟨y, rfl⟩ := Int.eq_ofNat_of_zero_le (show 0 ≤ y0 by omega)
  obtain ⟨mm, rfl⟩ : ∃ mm : Nat, m0 = (mm : Int) + 1 := ⟨(m0 - 1).toNat, by omega⟩
  have emm : ((mm : Int) + 1 - 1).toNat = mm := by omega
  rw [emm] at hdd
  obtain ⟨n, hn⟩ : ∃ n, secs ⟨⟨(y : Int), (mm : Int) + 1, d⟩, h, i, s⟩ = n := ⟨_, rfl⟩
  obtain ⟨Dd, hD⟩ : ∃ Dd, dayN ⟨(y : Int), (mm : Int) + 1, d⟩ = Dd := ⟨_, rfl⟩
  rw [hn] at hN hin
  rw [hD] at hp hyr hdb hdd
  rw [hn]
  clear hn hD
  obtain ⟨D, rfl⟩ := Int.eq_ofNat_of_zero_le hdb.1
  have p1 : N / 86400 = D := by omega
  have w1 := i64n (n + 62167219200) N hN (by omega)
  have t1 : (N : Int).tdiv 86400 = (D : Int) := by rw [← p1]; exact tdivN N 86400
  have w2 := i64n (D : Int) D rfl (by omega)
  have t2 : (D : Int).tdiv 366 = ((D / 366 : Nat) : Int) := tdivN D 366
  have w3 := i64n ((D / 366 : Nat) : Int) (D / 366) rfl (by omega)
  repeat (first
    | (with_reducible refine lops_step fun K hK => ?_; simp (disch := first | omega | (simp only [go_sem, isRow, isFlat, Option.isSome_some]; done) | assumption | (simp only [ints_length, List.length_replicate, List.length_set, List.length_append, List.length_take, List.length_drop, List.length_cons, List.length_nil] <;> omega) | fail) only [go_sem, Nat.reduceAdd, Nat.reduceSub, reduceIte, Nat.reduceEqDiff, Int.reduceToNat, Int.reduceBEq, Int.reduceBNe, w1, w2, w3, t1, t2]; (repeat (with_reducible refine And.intro (by first | omega | rfl | assumption | decide) ?_)); (first | (refine hK _ _ ?_) | (refine ⟨_, rfl, hK _ _ ?_⟩) | (refine Or.inl (hK _ _ ?_))); clear hK K)
    | (with_reducible refine lops_nil ?_)
    | (with_reducible refine lavc_reg ?_)
    | (with_reducible refine lavc_seq ?_)
    | (with_reducible refine lavc_block ?_)
    | (with_reducible refine lavc_skip ?_)
    | (with_reducible refine lavc_exit ?_)
    | (with_reducible refine lavc_ret ?_)
    | (with_reducible refine lavcR_round ?_)
    | (simp only [↓reduceIte, Nat.reduceEqDiff, reduceCtorEq]))
  have hY0 : D / 366 ≤ y := by
    rcases Nat.lt_or_ge y (D / 366) with hlt | hge
    · have a1 := ahead_le (a := (y : Int) + 1) (b := ((D / 366 : Nat) : Int)) (by omega) (by omega)
      have a2 := ahead_366 (D / 366)
      omega
    · exact hge
  refine lavc_loopM ms25_0 (fun m (Y : Nat) => m + Y = y) (fun Y => []) (fun Y => [⟨[iv 0, iv 0, iv 0, iv 0, iv 0, iv 0], 0, true, 44⟩, ⟨[iv Y, iv 1, iv D], 0, true, 42⟩]) (y - D / 366) (D / 366) (by omega) ?_ ?_ ?_
  · simp only [ms25_0, putAll, blank, List.foldl_cons, List.foldl_nil, List.set_cons_succ, List.set_cons_zero, List.cons_append, List.nil_append, ALe, true_or, or_true, and_true, true_and, eq_self, reduceCtorEq, false_or]
  · rfl
  intro m Y hY
  simp only [ms25_0, putAll, blank, List.foldl_cons, List.foldl_nil, List.set_cons_succ, List.set_cons_zero, List.cons_append, List.nil_append]
  have e1 := i64n ((Y : Int) + 1) (Y + 1) (by omega) (by omega)
  have ap := ahead_p (Y + 1) (by omega)
  repeat (first
    | (with_reducible refine lops_step fun K hK => ?_; simp (disch := first | omega | (simp only [go_sem, isRow, isFlat, Option.isSome_some]; done) | assumption | (simp only [ints_length, List.length_replicate, List.length_set, List.length_append, List.length_take, List.length_drop, List.length_cons, List.length_nil] <;> omega) | fail) only [go_sem, Nat.reduceAdd, Nat.reduceSub, reduceIte, Nat.reduceEqDiff, Int.reduceToNat, Int.reduceBEq, Int.reduceBNe, e1, t1, w2]; (repeat (with_reducible refine And.intro (by first | omega | rfl | assumption | decide) ?_)); (first | (refine hK _ _ ?_) | (refine ⟨_, rfl, hK _ _ ?_⟩) | (refine Or.inl (hK _ _ ?_)) | (refine ⟨_, _, Or.inl (ap.go _), (by first | exact ⟨[], (List.append_nil _).symm⟩ | exact ⟨_, rfl⟩), hK _ _ ?_⟩) | (refine ⟨_, _, Or.inl (ap.go _), hK _ _ ?_⟩) | (refine ⟨_, _, Or.inl (ap.go _).weakQ, hK _ _ ?_⟩)); clear hK K)
    | (with_reducible refine lops_nil ?_)
    | (with_reducible refine lavc_reg ?_)
    | (with_reducible refine lavc_seq ?_)
    | (with_reducible refine lavc_block ?_)
    | (with_reducible refine lavc_skip ?_)
    | (with_reducible refine lavc_exit ?_)
    | (with_reducible refine lavc_ret ?_)
    | (with_reducible refine lavcR_round ?_)
    | (simp only [↓reduceIte, Nat.reduceEqDiff, reduceCtorEq]))
  refine lavc_cond rfl (fun hc => ?_) (fun hc => ?_) <;> try simp only [decide_eq_true_eq, decide_eq_false_iff_not, Int.not_lt, Int.not_le, beq_iff_eq, bne_iff_ne, bne_eq_false_iff_eq, beq_eq_false_iff_ne, ne_eq, Bool.not_eq_true', Bool.not_eq_false'] at hc
  · have hlt : Y < y := by
      rcases Nat.lt_or_ge Y y with hlt | hge
      · exact hlt
      · obtain rfl : Y = y := by omega
        rw [Int.natCast_succ] at hc
        omega
    repeat (first
      | (with_reducible refine lops_step fun K hK => ?_; simp (disch := first | omega | (simp only [go_sem, isRow, isFlat, Option.isSome_some]; done) | assumption | (simp only [ints_length, List.length_replicate, List.length_set, List.length_append, List.length_take, List.length_drop, List.length_cons, List.length_nil] <;> omega) | fail) only [go_sem, Nat.reduceAdd, Nat.reduceSub, reduceIte, Nat.reduceEqDiff, Int.reduceToNat, Int.reduceBEq, Int.reduceBNe, e1]; (repeat (with_reducible refine And.intro (by first | omega | rfl | assumption | decide) ?_)); (first | (refine hK _ _ ?_) | (refine ⟨_, rfl, hK _ _ ?_⟩) | (refine Or.inl (hK _ _ ?_))); clear hK K)
      | (with_reducible refine lops_nil ?_)
      | (with_reducible refine lavc_reg ?_)
      | (with_reducible refine lavc_seq ?_)
      | (with_reducible refine lavc_block ?_)
      | (with_reducible refine lavc_skip ?_)
      | (with_reducible refine lavc_exit ?_)
      | (with_reducible refine lavc_ret ?_)
      | (with_reducible refine lavcR_round ?_)
      | (simp only [↓reduceIte, Nat.reduceEqDiff, reduceCtorEq]))
    refine ⟨m - 1, Y + 1, by omega, by omega, ?_, rfl⟩
    simp only [ms25_0, putAll, blank, List.foldl_cons, List.foldl_nil, List.set_cons_succ, List.set_cons_zero, List.cons_append, List.nil_append, ALe, true_or, or_true, and_true, true_and, eq_self, reduceCtorEq, false_or]
  obtain rfl : Y = y := by
    rcases Nat.lt_or_ge Y y with hlt | hge
    · have a1 := ahead_le (a := ((Y + 1 : Nat) : Int)) (b := (y : Int)) (by omega) (by omega)
      omega
    · omega
  clear ap
  have ap := ahead_p Y (by omega)
  have b0 := ahead_in (k := (Y : Int)) (by omega) (by omega)
  have bs := msum_in (Y : Int) mm (by omega)
  have f1 := i64z (aheadY Y - 1) (by omega)
  have f2 : IntKind.i64.wrap ((D : Int) - (aheadY Y - 1)) = msum Y mm + d - msum Y 0 := by
    have z : msum Y 0 = 0 := rfl
    rw [i64z _ (by omega)]
    omega
  repeat (first
    | (with_reducible refine lops_step fun K hK => ?_; simp (disch := first | omega | (simp only [go_sem, isRow, isFlat, Option.isSome_some]; done) | assumption | (simp only [ints_length, List.length_replicate, List.length_set, List.length_append, List.length_take, List.length_drop, List.length_cons, List.length_nil] <;> omega) | fail) only [go_sem, Nat.reduceAdd, Nat.reduceSub, reduceIte, Nat.reduceEqDiff, Int.reduceToNat, Int.reduceBEq, Int.reduceBNe, f1, f2]; (repeat (with_reducible refine And.intro (by first | omega | rfl | assumption | decide) ?_)); (first | (refine hK _ _ ?_) | (refine ⟨_, rfl, hK _ _ ?_⟩) | (refine Or.inl (hK _ _ ?_)) | (refine ⟨_, _, Or.inl (ap.go _), (by first | exact ⟨[], (List.append_nil _).symm⟩ | exact ⟨_, rfl⟩), hK _ _ ?_⟩) | (refine ⟨_, _, Or.inl (ap.go _), hK _ _ ?_⟩) | (refine ⟨_, _, Or.inl (ap.go _).weakQ, hK _ _ ?_⟩)); clear hK K)
    | (with_reducible refine lops_nil ?_)
    | (with_reducible refine lavc_reg ?_)
    | (with_reducible refine lavc_seq ?_)
    | (with_reducible refine lavc_block ?_)
    | (with_reducible refine lavc_skip ?_)
    | (with_reducible refine lavc_exit ?_)
    | (with_reducible refine lavc_ret ?_)
    | (with_reducible refine lavcR_round ?_)
    | (simp only [↓reduceIte, Nat.reduceEqDiff, reduceCtorEq]))
  refine lavc_loopM ms25_1 (fun m (q : Nat) => m + q = mm) (fun q => []) (fun q => [⟨[iv 0, iv 0, iv 0, iv 0, iv 0, iv 0], 0, true, 44⟩, ⟨[iv Y, iv ((q : Int) + 1), iv (msum Y mm + d - msum Y q)], 0, true, 42⟩]) mm 0 (by omega) ?_ ?_ ?_
  · simp only [ms25_1, putAll, blank, List.foldl_cons, List.foldl_nil, List.set_cons_succ, List.set_cons_zero, List.cons_append, List.nil_append, ALe, true_or, or_true, and_true, true_and, eq_self, reduceCtorEq, false_or]
  · rfl
  clear m hY
  intro m q hq
  simp only [ms25_1, putAll, blank, List.foldl_cons, List.foldl_nil, List.set_cons_succ, List.set_cons_zero, List.cons_append, List.nil_append]
  have dp := Days_p (Y : Int) ((q : Int) + 1) (by omega)
  have bq := msum_in (Y : Int) q (by omega)
  have bm := mdays_le (Y : Int) ((q : Int) + 1)
  have eq1 : msum Y (q + 1) = msum Y q + mdays Y ((q : Int) + 1) := rfl
  repeat (first
    | (with_reducible refine lops_step fun K hK => ?_; simp (disch := first | omega | (simp only [go_sem, isRow, isFlat, Option.isSome_some]; done) | assumption | (simp only [ints_length, List.length_replicate, List.length_set, List.length_append, List.length_take, List.length_drop, List.length_cons, List.length_nil] <;> omega) | fail) only [go_sem, Nat.reduceAdd, Nat.reduceSub, reduceIte, Nat.reduceEqDiff, Int.reduceToNat, Int.reduceBEq, Int.reduceBNe]; (repeat (with_reducible refine And.intro (by first | omega | rfl | assumption | decide) ?_)); (first | (refine hK _ _ ?_) | (refine ⟨_, rfl, hK _ _ ?_⟩) | (refine Or.inl (hK _ _ ?_)) | (refine ⟨_, _, Or.inl (dp.go _), (by first | exact ⟨[], (List.append_nil _).symm⟩ | exact ⟨_, rfl⟩), hK _ _ ?_⟩) | (refine ⟨_, _, Or.inl (dp.go _), hK _ _ ?_⟩) | (refine ⟨_, _, Or.inl (dp.go _).weakQ, hK _ _ ?_⟩)); clear hK K)
    | (with_reducible refine lops_nil ?_)
    | (with_reducible refine lavc_reg ?_)
    | (with_reducible refine lavc_seq ?_)
    | (with_reducible refine lavc_block ?_)
    | (with_reducible refine lavc_skip ?_)
    | (with_reducible refine lavc_exit ?_)
    | (with_reducible refine lavc_ret ?_)
    | (with_reducible refine lavcR_round ?_)
    | (simp only [↓reduceIte, Nat.reduceEqDiff, reduceCtorEq]))
  refine lavc_cond rfl (fun hc => ?_) (fun hc => ?_) <;> try simp only [decide_eq_true_eq, decide_eq_false_iff_not, Int.not_lt, Int.not_le, beq_iff_eq, bne_iff_ne, bne_eq_false_iff_eq, beq_eq_false_iff_ne, ne_eq, Bool.not_eq_true', Bool.not_eq_false'] at hc
  · have hlt : q < mm := by
      rcases Nat.lt_or_ge q mm with hlt | hge
      · exact hlt
      · obtain rfl : q = mm := by omega
        omega
    have g1 : IntKind.i64.wrap (msum Y mm + d - msum Y q - mdays Y ((q : Int) + 1)) = msum Y mm + d - msum Y (q + 1) := by
      rw [i64z _ (by omega)]
      omega
    have g2 := i64n ((q : Int) + 1 + 1) (q + 2) (by omega) (by omega)
    repeat (first
      | (with_reducible refine lops_step fun K hK => ?_; simp (disch := first | omega | (simp only [go_sem, isRow, isFlat, Option.isSome_some]; done) | assumption | (simp only [ints_length, List.length_replicate, List.length_set, List.length_append, List.length_take, List.length_drop, List.length_cons, List.length_nil] <;> omega) | fail) only [go_sem, Nat.reduceAdd, Nat.reduceSub, reduceIte, Nat.reduceEqDiff, Int.reduceToNat, Int.reduceBEq, Int.reduceBNe, g1, g2]; (repeat (with_reducible refine And.intro (by first | omega | rfl | assumption | decide) ?_)); (first | (refine hK _ _ ?_) | (refine ⟨_, rfl, hK _ _ ?_⟩) | (refine Or.inl (hK _ _ ?_)) | (refine ⟨_, _, Or.inl (dp.go _), (by first | exact ⟨[], (List.append_nil _).symm⟩ | exact ⟨_, rfl⟩), hK _ _ ?_⟩) | (refine ⟨_, _, Or.inl (dp.go _), hK _ _ ?_⟩) | (refine ⟨_, _, Or.inl (dp.go _).weakQ, hK _ _ ?_⟩)); clear hK K)
      | (with_reducible refine lops_nil ?_)
      | (with_reducible refine lavc_reg ?_)
      | (with_reducible refine lavc_seq ?_)
      | (with_reducible refine lavc_block ?_)
      | (with_reducible refine lavc_skip ?_)
      | (with_reducible refine lavc_exit ?_)
      | (with_reducible refine lavc_ret ?_)
      | (with_reducible refine lavcR_round ?_)
      | (simp only [↓reduceIte, Nat.reduceEqDiff, reduceCtorEq]))
    refine ⟨m - 1, q + 1, by omega, by omega, ?_, ?_⟩
    · simp only [ms25_1, putAll, blank, List.foldl_cons, List.foldl_nil, List.set_cons_succ, List.set_cons_zero, List.cons_append, List.nil_append, ALe, true_or, or_true, and_true, true_and, eq_self, reduceCtorEq, false_or]
    · rw [show (((q + 1 : Nat) : Int) + 1) = ((q + 2 : Nat) : Int) from by omega]
  obtain rfl : q = mm := by
    rcases Nat.lt_or_ge q mm with hlt | hge
    · have := msum_mono (Y : Int) (a := q + 1) (b := mm) (by omega)
      omega
    · omega
  have ed : msum Y q + d - msum Y q = d := by omega
  have r1 : (N : Int).tmod 86400 = ((N % 86400 : Nat) : Int) := tmodN N 86400
  have r2 := i64n ((N % 86400 : Nat) : Int) (N % 86400) rfl (by omega)
  have r3 : ((N % 86400 : Nat) : Int).tdiv 3600 = h := by rw [show ((N % 86400 : Nat) : Int).tdiv 3600 = ((N % 86400 / 3600 : Nat) : Int) from tdivN _ 3600]; omega
  have r4 : ((N % 86400 : Nat) : Int).tmod 3600 = ((N % 86400 % 3600 : Nat) : Int) := tmodN _ 3600
  have r5 := i64n ((N % 86400 % 3600 : Nat) : Int) (N % 86400 % 3600) rfl (by omega)
  have r6 : ((N % 86400 % 3600 : Nat) : Int).tdiv 60 = i := by rw [show ((N % 86400 % 3600 : Nat) : Int).tdiv 60 = ((N % 86400 % 3600 / 60 : Nat) : Int) from tdivN _ 60]; omega
  have r7 : ((N % 86400 : Nat) : Int).tmod 60 = s := by rw [show ((N % 86400 : Nat) : Int).tmod 60 = ((N % 86400 % 60 : Nat) : Int) from tmodN _ 60]; omega
  have r8 := i64z h (by omega)
  have r9 := i64z i (by omega)
  have r10 := i64z s (by omega)
  have s0 : ∀ a b c : AV, splice (ints .i64 (List.replicate 6 0)) 0 [a, b, c] = [a, b, c, iv 0, iv 0, iv 0] := fun _ _ _ => rfl
  have s3 : ∀ a b c d e f x : AV, splice [a, b, c, d, e, f] 3 [x] = [a, b, c, x, e, f] := fun _ _ _ _ _ _ _ => rfl
  have s4 : ∀ a b c d e f x : AV, splice [a, b, c, d, e, f] 4 [x] = [a, b, c, d, x, f] := fun _ _ _ _ _ _ _ => rfl
  have s5 : ∀ a b c d e f x : AV, splice [a, b, c, d, e, f] 5 [x] = [a, b, c, d, e, x] := fun _ _ _ _ _ _ _ => rfl
  repeat (first
    | (with_reducible refine lops_step fun K hK => ?_; simp (disch := first | omega | (simp only [go_sem, isRow, isFlat, Option.isSome_some]; done) | assumption | (simp only [ints_length, List.length_replicate, List.length_set, List.length_append, List.length_take, List.length_drop, List.length_cons, List.length_nil] <;> omega) | fail) only [go_sem, Nat.reduceAdd, Nat.reduceSub, reduceIte, Nat.reduceEqDiff, Int.reduceToNat, Int.reduceBEq, Int.reduceBNe, s0, s3, s4, s5, List.length_cons, List.length_nil, ed, r1, r2, r3, r4, r5, r6, r7, r8, r9, r10]; (repeat (with_reducible refine And.intro (by first | omega | rfl | assumption | decide) ?_)); (first | (refine hK _ _ ?_) | (refine ⟨_, rfl, hK _ _ ?_⟩) | (refine Or.inl (hK _ _ ?_))); clear hK K)
    | (with_reducible refine lops_nil ?_)
    | (with_reducible refine lavc_reg ?_)
    | (with_reducible refine lavc_seq ?_)
    | (with_reducible refine lavc_block ?_)
    | (with_reducible refine lavc_skip ?_)
    | (with_reducible refine lavc_exit ?_)
    | (with_reducible refine lavc_ret ?_)
    | (with_reducible refine lavcR_round ?_)
    | (simp only [↓reduceIte, Nat.reduceEqDiff, reduceCtorEq]))
  refine And.intro (by simp) ?_
  simp (disch := first | omega | (simp only [go_sem, isRow, isFlat, Option.isSome_some]; done) | assumption | (simp only [ints_length, List.length_replicate, List.length_set, List.length_append, List.length_take, List.length_drop, List.length_cons, List.length_nil] <;> omega) | fail) only [go_sem, Nat.reduceAdd, Nat.reduceSub, reduceIte, Nat.reduceEqDiff, Int.reduceToNat, Int.reduceBEq, Int.reduceBNe, aret, aretL, aret1, aenv]
  (repeat (with_reducible refine And.intro (by first | omega | rfl | assumption | decide) ?_))
  exact end0 (NR.mv _) rfl
end Go.Abs.S
