/- coin.Unpack. -/
import Derived.Test.YtldfdofeecmhoaaDoorCoiU
import Derived.Test.YtldfdofeecmhoaaDoorAbsRead
namespace Go.Abs.S
attribute [local go_sem] lguard aopO aop nxL aenv toAV tput aLoad aStore vcells aBin aNilI aUn aAlloc aBox aBuild aBSlice afill aConv isIntT aappZ aCap aArr aMM aMake aSlice bnd3 bnd aFldAddr aFld aIdxAddr aIdx aExt aLen aCopy aEq0 bAV aUb aapp aappQ agh acont List.getD_cons_zero List.getD_cons_succ List.set_cons_zero List.set_cons_succ List.getElem?_cons_zero List.getElem?_cons_succ List.length_cons List.length_nil List.map_cons List.map_nil ints_length if_true if_false Bool.false_eq_true true_and and_true eq_self ne_eq not_false_eq_true not_true_eq_false beq_self_eq_true Nat.zero_add Nat.add_zero Nat.mul_one Nat.zero_mul Int.toNat_natCast List.toList_toArray List.all_cons List.all_nil AV.one Value.oneCell' Bool.and_true Bool.true_and forall_const true_implies false_implies implies_true Option.map_some Option.map_none Option.isSome_some Option.isSome_none imp_self rdP_flat rdP_row splice_one ints_set ints_get List.append_nil List.cons_append List.nil_append List.getElem?_toArray List.drop_zero ints_drop ints_take List.take_of_length_le splice_all ints_one Option.some.injEq Option.getD_some List.length_replicate zArr List.map_replicate rep_ints splice_intsR List.length_set List.length_append List.flatten_replicate_singleton rep_slice rep_string rep_bool rep_iface List.replicate_zero if_pos if_neg List.mapM_cons List.mapM_nil Option.pure_def Option.bind_eq_bind Option.bind_some Bool.true_eq_false Bool.not_false Bool.not_true get_concat set_concat
open Go.Proofs
set_option linter.unusedVariables false
set_option linter.unusedSimpArgs false
set_option maxRecDepth 100000
set_option maxHeartbeats 4000000
theorem NR.rows (k : IntKind) (rs : List (List Int)) : ∀ c ∈ rows k rs, NR c := by
  intro c hc
  obtain ⟨x, _, rfl⟩ := List.mem_map.1 hc
  exact NR.vsl (NR.ints _ _)
theorem takeP_by {B : List Int} (hB : By B) (sh : Bool) (n : Int) : By (takeP B sh n).1 ∧ By (takeP B sh n).2.1 := by
  unfold takeP
  split
  · exact ⟨fun x hx => absurd hx List.not_mem_nil, hB⟩
  · exact ⟨fun x hx => hB x (List.mem_of_mem_take hx), fun x hx => hB x (List.mem_of_mem_drop hx)⟩
theorem numP_all {B : List Int} (hB : By B) : ∃ n : Nat, (numP B false).1 = n ∧ n ≤ 2147483647 ∧ By (numP B false).2.1 ∧ (numP B false).2.1.length ≤ B.length ∧ ((numP B false).2.2 = false → (numP B false).2.1.length + 8 = B.length) := by
  cases hd : dec B with
  | none =>
    obtain ⟨h1, h2⟩ := numP_none hB hd
    refine ⟨0, h1, by omega, ?_, ?_, fun h => by rw [h2] at h; cases h⟩
    · unfold numP
      split
      · exact (takeP_by hB _ _).2
      · exact (takeP_by hB _ _).2
    · unfold numP
      split
      · exact (takeP_le B _ _).2
      · exact (takeP_le B _ _).2
  | some x =>
    obtain ⟨k, R⟩ := x
    obtain ⟨h2, h3⟩ := dec_by hB hd
    rw [numP_some hB hd]
    refine ⟨k, rfl, ?_, h2, by show R.length ≤ B.length; omega, fun _ => h3⟩
    unfold dec at hd
    split at hd
    · cases hd
    · simp only [Option.some.injEq, Prod.mk.injEq] at hd
      omega
theorem takeP_len (B : List Int) (n : Int) (h0 : 0 ≤ n) : (takeP B false n).2.2 = false → (takeP B false n).2.1.length ≤ B.length := fun _ => (takeP_le B _ _).2
theorem takeP_sh (B : List Int) (sh : Bool) (n : Int) : (takeP B sh n).2.2 = false → sh = false := by
  unfold takeP
  split
  · intro h
    cases h
  · rename_i h
    intro _
    cases sh
    · rfl
    · exact absurd (.inl rfl) h
theorem unp_eq {B : List Int} (hB : By B) {n : Nat} (hn : (numP B false).1 = n) : unp B = if (loopP n (numP B false).2.1 (numP B false).2.2).2.2 = true then ([], 3) else if (loopP n (numP B false).2.1 (numP B false).2.2).2.1.length > 0 then ([], 2) else ((loopP n (numP B false).2.1 (numP B false).2.2).1, 0) := by
  unfold unp
  cases hd : dec B with
  | none =>
    rw [(numP_none hB hd).2, loopP_short]
    simp
  | some x =>
    obtain ⟨k, R⟩ := x
    obtain ⟨h2, h3⟩ := dec_by hB hd
    rw [numP_some hB hd] at hn ⊢
    obtain rfl : k = n := by
      have : (k : Int) = n := hn
      omega
    have h := loopP_rows k R h2
    cases hr : rowsP k R with
    | none =>
      rw [hr] at h
      simp only at h
      simp only [h, hr, if_true]
    | some y =>
      obtain ⟨rs, E⟩ := y
      rw [hr] at h
      simp only at h
      simp only [h, hr]
      simp
/-- What holds between two rounds. -/
def UI (B : List Int) (tot : List (List Int) × List Int × Bool) (m : Nat) (x : Nat × List Int × Bool × List (List Int) × Nat) : Prop :=
  m = x.1 ∧ x.1 ≤ 2147483647 ∧ By x.2.1 ∧ x.2.1.length ≤ B.length ∧ x.2.2.2.1.length * 8 ≤ B.length + 8 ∧ (x.2.2.1 = false → x.2.2.2.1.length * 8 + x.2.1.length ≤ B.length) ∧ x.2.2.2.1 ++ (loopP x.1 x.2.1 x.2.2.1).1 = tot.1 ∧ (loopP x.1 x.2.1 x.2.2.1).2 = tot.2
theorem unpack0_p (B : List Int) (hB : By B) (h1 : B.length ≤ 1000000) :
    PCall Tryd.prog glob 15 [.vsl B.length (ints .u8 B) none] (.tup [.vsl (unp B).1.length (rows .u8 (unp B).1) none, .v (.int .i64 (unp B).2)]) := by
  refine PCall.of ctx.nr (by (repeat (refine List.forall_mem_cons.2 (And.intro (by first | exact NR.v _ | exact NR.agg (NR.ints _ _) | exact NR.vsl (NR.ints _ _) | exact NR.vptr (NR.ints _ _) | assumption) ?_))); exact fun _ h => absurd h List.not_mem_nil) (NR.tup (List.forall_mem_cons.2 ⟨NR.vsl (NR.rows _ _), by simp [NR.v]⟩)) ?_
  refine lcall15 (by simp) 0 (Nat.le_refl _) ?_
  unfold lc15
  simp only [List.length_cons, List.length_nil, Nat.reduceAdd, Nat.reduceSub, List.replicate_succ, List.replicate_zero, List.cons_append, List.nil_append]
  have hn := fun v e => number_m B false v e h1
  obtain ⟨n, hnn, hn1, hn2, hn3, hn4⟩ := numP_all hB
  obtain ⟨B1, hB1⟩ : ∃ B1, (numP B false).2.1 = B1 := ⟨_, rfl⟩
  obtain ⟨s1, hs1⟩ : ∃ s1, (numP B false).2.2 = s1 := ⟨_, rfl⟩
  rw [hnn, hB1, hs1] at hn
  rw [hB1] at hn2 hn3
  rw [hB1, hs1] at hn4
  repeat (first
    | (with_reducible refine lops_step fun K hK => ?_; simp (disch := first | omega | (simp only [go_sem, isRow, isFlat, Option.isSome_some]; done) | assumption | (simp only [ints_length, List.length_replicate, List.length_set, List.length_append, List.length_take, List.length_drop, List.length_cons, List.length_nil] <;> omega) | fail) only [go_sem, Nat.reduceAdd, Nat.reduceSub, reduceIte, Nat.reduceEqDiff, Int.reduceToNat, Int.reduceBEq, Int.reduceBNe]; (repeat (with_reducible refine And.intro (by first | omega | rfl | assumption | decide) ?_)); (first | (refine hK _ _ ?_) | (refine ⟨_, rfl, hK _ _ ?_⟩) | (refine Or.inl (hK _ _ ?_)) | (refine ⟨_, _, Or.inl ((hn _ _).go _ _ rfl), (by first | exact ⟨[], (List.append_nil _).symm⟩ | exact ⟨_, rfl⟩), hK _ _ ?_⟩) | (refine ⟨_, _, Or.inl ((hn _ _).go _ _ rfl), hK _ _ ?_⟩) | (refine ⟨_, _, Or.inl ((hn _ _).go _ _ rfl).weakQ, hK _ _ ?_⟩)); clear hK K)
    | (with_reducible refine lops_nil ?_)
    | (with_reducible refine lavc_reg ?_)
    | (with_reducible refine lavc_seq ?_)
    | (with_reducible refine lavc_block ?_)
    | (with_reducible refine lavc_skip ?_)
    | (with_reducible refine lavc_exit ?_)
    | (with_reducible refine lavc_ret ?_)
    | (with_reducible refine lavcR_round ?_)
    | (simp only [↓reduceIte, Nat.reduceEqDiff, reduceCtorEq]))
  refine lavc_loopG [(5, 1, 22)] ms15_0 (UI B (loopP n B1 s1)) (fun x => [(5, .sl 1 x.2.2.2.2 0 x.2.2.2.1.length x.2.2.2.1.length 1 false), (6, .v (.int .i64 x.1))]) (fun x => [⟨[.vsl x.2.1.length (ints .u8 x.2.1) none, .v (.bool x.2.2.1)], 0, true, 48⟩, ⟨rows .u8 x.2.2.2.1, x.2.2.2.2, true, 22⟩]) n (n, B1, s1, [], 0) ⟨rfl, hn1, hn2, hn3, by simp, fun h => by have := hn4 h; show 0 * 8 + B1.length ≤ B.length; omega, rfl, rfl⟩ ?_ ?_
  · refine ⟨⟨rfl, by simp⟩, ?_, rfl⟩
    simp only [ms15_0, putAll, blank, List.foldl_cons, List.foldl_nil, List.set_cons_succ, List.set_cons_zero, List.cons_append, List.nil_append, ALe, true_or, or_true, and_true, true_and, eq_self, reduceCtorEq, false_or]
    rfl
  rintro m ⟨k, B', sh, out, v⟩ ⟨i1, i2, i3, i4, i5, i6, i7, i8⟩
  simp only at i1 i2 i3 i4 i5 i6 i7 i8
  simp only [ms15_0, putAll, blank, List.foldl_cons, List.foldl_nil, List.set_cons_succ, List.set_cons_zero, List.cons_append, List.nil_append]
  have hro : (rows .u8 out).length = out.length := rows_length _ _
  have done : (k = 0 ∨ sh = true) → out = (loopP n B1 s1).1 ∧ (B', sh) = (loopP n B1 s1).2 := by
    rintro (rfl | rfl)
    · rw [← i7, ← i8]
      exact ⟨by simp [loopP], rfl⟩
    · rw [loopP_short] at i7 i8
      rw [← i7, ← i8]
      exact ⟨by simp, rfl⟩
  by_cases hgo : 0 < k ∧ sh = false
  · obtain ⟨hk, rfl⟩ := hgo
    obtain ⟨k, rfl⟩ : ∃ q, k = q + 1 := ⟨k - 1, by omega⟩
    have d1 : decide (((k + 1 : Nat) : Int) > 0) = true := by simp
    repeat (first
      | (with_reducible refine lops_step fun K hK => ?_; simp (disch := first | omega | (simp only [go_sem, isRow, isFlat, Option.isSome_some]; done) | assumption | (simp only [ints_length, List.length_replicate, List.length_set, List.length_append, List.length_take, List.length_drop, List.length_cons, List.length_nil] <;> omega) | fail) only [go_sem, Nat.reduceAdd, Nat.reduceSub, reduceIte, Nat.reduceEqDiff, Int.reduceToNat, Int.reduceBEq, Int.reduceBNe, d1, Bool.not_false, if_true, if_false, Bool.false_eq_true]; (repeat (with_reducible refine And.intro (by first | omega | rfl | assumption | decide) ?_)); (first | (refine hK _ _ ?_) | (refine ⟨_, rfl, hK _ _ ?_⟩) | (refine Or.inl (hK _ _ ?_))); clear hK K)
      | (with_reducible refine lops_nil ?_)
      | (with_reducible refine lavc_reg ?_)
      | (with_reducible refine lavc_seq ?_)
      | (with_reducible refine lavc_block ?_)
      | (with_reducible refine lavc_skip ?_)
      | (with_reducible refine lavc_exit ?_)
      | (with_reducible refine lavc_ret ?_)
      | (with_reducible refine lavcR_round ?_)
      | (simp only [↓reduceIte, Nat.reduceEqDiff, reduceCtorEq]))
    refine lavc_cond rfl (fun hc => ?_) (fun hc => ?_) <;> try simp only [decide_eq_true_eq, decide_eq_false_iff_not, Int.not_lt, Int.not_le, beq_iff_eq, bne_iff_ne, bne_eq_false_iff_eq, beq_eq_false_iff_ne, ne_eq, Bool.not_eq_true', Bool.not_eq_false'] at hc
    · have hm := fun v e => number_m B' false v e (by omega)
      obtain ⟨p, q1, q2, q3, q4, q5⟩ := numP_all i3
      obtain ⟨R1, hR1⟩ : ∃ R1, (numP B' false).2.1 = R1 := ⟨_, rfl⟩
      obtain ⟨t1, ht1⟩ : ∃ t1, (numP B' false).2.2 = t1 := ⟨_, rfl⟩
      have hl : loopP (k + 1) B' false = ((takeP R1 t1 p).1 :: (loopP k (takeP R1 t1 p).2.1 (takeP R1 t1 p).2.2).1, (loopP k (takeP R1 t1 p).2.1 (takeP R1 t1 p).2.2).2) := by
        simp only [loopP, q1, hR1, ht1]
      rw [hl] at i7 i8
      rw [q1, hR1, ht1] at hm
      rw [hR1] at q3 q4 q5
      rw [ht1] at q5
      have htk := fun v e => take_m R1 t1 p v e (by omega) (by omega)
      have b1 := takeP_by q3 t1 p
      have b2 := takeP_le R1 t1 p
      have b3 := takeP_sh R1 t1 p
      obtain ⟨r, hr⟩ : ∃ r, (takeP R1 t1 p).1 = r := ⟨_, rfl⟩
      obtain ⟨R2, hR2⟩ : ∃ R2, (takeP R1 t1 p).2.1 = R2 := ⟨_, rfl⟩
      obtain ⟨t2, ht2⟩ : ∃ t2, (takeP R1 t1 p).2.2 = t2 := ⟨_, rfl⟩
      rw [hr, hR2, ht2] at htk
      rw [hr, hR2] at b1 b2
      rw [ht2] at b3
      rw [hr, hR2, ht2] at i7
      rw [hR2, ht2] at i8
      have tk : List.take out.length (rows .u8 out) = rows .u8 out := List.take_of_length_le (by rw [hro]; exact Nat.le_refl _)
      have add : rows .u8 out ++ [AV.vsl r.length (ints .u8 r) none] = rows .u8 (out ++ [r]) := by simp [rows]
      have one : (List.replicate 1 (AV.v (Value.slice none 0 0))).set 0 (AV.vsl r.length (ints .u8 r) none) = [AV.vsl r.length (ints .u8 r) none] := rfl
      have e1 : IntKind.i64.wrap (((k + 1 : Nat) : Int) - 1) = (k : Int) := i64n _ k (by omega) (by omega)
      repeat (first
        | (with_reducible refine lops_step fun K hK => ?_; simp (disch := first | omega | (simp only [go_sem, isRow, isFlat, Option.isSome_some]; done) | assumption | (simp only [ints_length, List.length_replicate, List.length_set, List.length_append, List.length_take, List.length_drop, List.length_cons, List.length_nil] <;> omega) | fail) only [go_sem, Nat.reduceAdd, Nat.reduceSub, reduceIte, Nat.reduceEqDiff, Int.reduceToNat, Int.reduceBEq, Int.reduceBNe, hro, tk, add, one, e1]; (repeat (with_reducible refine And.intro (by first | omega | rfl | assumption | decide) ?_)); (first | (refine hK _ _ ?_) | (refine ⟨_, rfl, hK _ _ ?_⟩) | (refine Or.inr (hK _ _ ?_)) | (refine Or.inr ⟨rfl, hK _ _ ?_⟩) | (refine ⟨_, _, Or.inl ((hm _ _).go _ _ rfl), (by first | exact ⟨[], (List.append_nil _).symm⟩ | exact ⟨_, rfl⟩), hK _ _ ?_⟩) | (refine ⟨_, _, Or.inl ((hm _ _).go _ _ rfl), hK _ _ ?_⟩) | (refine ⟨_, _, Or.inl ((hm _ _).go _ _ rfl).weakQ, hK _ _ ?_⟩) | (refine ⟨_, _, Or.inl ((htk _ _).go _ _ rfl), (by first | exact ⟨[], (List.append_nil _).symm⟩ | exact ⟨_, rfl⟩), hK _ _ ?_⟩) | (refine ⟨_, _, Or.inl ((htk _ _).go _ _ rfl), hK _ _ ?_⟩) | (refine ⟨_, _, Or.inl ((htk _ _).go _ _ rfl).weakQ, hK _ _ ?_⟩)); clear hK K)
        | (with_reducible refine lops_nil ?_)
        | (with_reducible refine lavc_reg ?_)
        | (with_reducible refine lavc_seq ?_)
        | (with_reducible refine lavc_block ?_)
        | (with_reducible refine lavc_skip ?_)
        | (with_reducible refine lavc_exit ?_)
        | (with_reducible refine lavc_ret ?_)
        | (with_reducible refine lavcR_round ?_)
        | (simp only [↓reduceIte, Nat.reduceEqDiff, reduceCtorEq]))
      refine ⟨k, (k, R2, t2, out ++ [r], v + 1), by omega, ⟨rfl, by show k ≤ _; omega, b1.2, by show R2.length ≤ _; omega, ?_, ?_, ?_, i8⟩, ?_, ?_⟩
      · show (out ++ [r]).length * 8 ≤ B.length + 8
        have := i6 rfl
        simp
        omega
      · intro ht
        show (out ++ [r]).length * 8 + R2.length ≤ B.length
        have h5 := q5 (b3 ht)
        have := i6 rfl
        simp
        omega
      · show (out ++ [r]) ++ (loopP k R2 t2).1 = _
        rw [← i7]
        simp
      · simp only [ms15_0, putAll, blank, List.foldl_cons, List.foldl_nil, List.set_cons_succ, List.set_cons_zero, List.cons_append, List.nil_append, ALe, true_or, or_true, and_true, true_and, eq_self, reduceCtorEq, false_or]
        simp
      · rfl
    · cases hc
  · have hdn := done (by
      rcases Nat.eq_zero_or_pos k with h | h
      · exact .inl h
      · right
        cases sh with
        | true => rfl
        | false => exact absurd ⟨h, rfl⟩ hgo)
    have hun := unp_eq hB hnn
    rw [hB1, hs1, ← hdn.1, ← hdn.2] at hun
    simp only at hun
    rw [hun]
    have hex : (k = 0) ∨ (0 < k ∧ sh = true) := by
      rcases Nat.eq_zero_or_pos k with h | h
      · exact .inl h
      · right
        cases sh with
        | true => exact ⟨h, rfl⟩
        | false => exact absurd ⟨h, rfl⟩ hgo
    rcases hex with rfl | ⟨hk, rfl⟩
    · have d1 : decide (((0 : Nat) : Int) > 0) = false := by decide
      repeat (first
        | (with_reducible refine lops_step fun K hK => ?_; simp (disch := first | omega | (simp only [go_sem, isRow, isFlat, Option.isSome_some]; done) | assumption | (simp only [ints_length, List.length_replicate, List.length_set, List.length_append, List.length_take, List.length_drop, List.length_cons, List.length_nil] <;> omega) | fail) only [go_sem, Nat.reduceAdd, Nat.reduceSub, reduceIte, Nat.reduceEqDiff, Int.reduceToNat, Int.reduceBEq, Int.reduceBNe, d1, Bool.not_false, if_true, if_false, Bool.false_eq_true]; (repeat (with_reducible refine And.intro (by first | omega | rfl | assumption | decide) ?_)); (first | (refine hK _ _ ?_) | (refine ⟨_, rfl, hK _ _ ?_⟩) | (refine Or.inl (hK _ _ ?_))); clear hK K)
        | (with_reducible refine lops_nil ?_)
        | (with_reducible refine lavc_reg ?_)
        | (with_reducible refine lavc_seq ?_)
        | (with_reducible refine lavc_block ?_)
        | (with_reducible refine lavc_skip ?_)
        | (with_reducible refine lavc_exit ?_)
        | (with_reducible refine lavc_ret ?_)
        | (with_reducible refine lavcR_round ?_)
        | (simp only [↓reduceIte, Nat.reduceEqDiff, reduceCtorEq]))
      refine lavc_cond rfl (fun hc => by cases hc) (fun _ => ?_)
      repeat (first
        | (with_reducible refine lops_step fun K hK => ?_; simp (disch := first | omega | (simp only [go_sem, isRow, isFlat, Option.isSome_some]; done) | assumption | (simp only [ints_length, List.length_replicate, List.length_set, List.length_append, List.length_take, List.length_drop, List.length_cons, List.length_nil] <;> omega) | fail) only [go_sem, Nat.reduceAdd, Nat.reduceSub, reduceIte, Nat.reduceEqDiff, Int.reduceToNat, Int.reduceBEq, Int.reduceBNe]; (repeat (with_reducible refine And.intro (by first | omega | rfl | assumption | decide) ?_)); (first | (refine hK _ _ ?_) | (refine ⟨_, rfl, hK _ _ ?_⟩) | (refine Or.inl (hK _ _ ?_))); clear hK K)
        | (with_reducible refine lops_nil ?_)
        | (with_reducible refine lavc_reg ?_)
        | (with_reducible refine lavc_seq ?_)
        | (with_reducible refine lavc_block ?_)
        | (with_reducible refine lavc_skip ?_)
        | (with_reducible refine lavc_exit ?_)
        | (with_reducible refine lavc_ret ?_)
        | (with_reducible refine lavcR_round ?_)
        | (simp only [↓reduceIte, Nat.reduceEqDiff, reduceCtorEq]))
      cases sh with
      | true =>
        rw [if_pos rfl]
        refine lavc_cond rfl (fun _ => ?_) (fun hc => by cases hc)
        repeat (first
          | (with_reducible refine lops_step fun K hK => ?_; simp (disch := first | omega | (simp only [go_sem, isRow, isFlat, Option.isSome_some]; done) | assumption | (simp only [ints_length, List.length_replicate, List.length_set, List.length_append, List.length_take, List.length_drop, List.length_cons, List.length_nil] <;> omega) | fail) only [go_sem, Nat.reduceAdd, Nat.reduceSub, reduceIte, Nat.reduceEqDiff, Int.reduceToNat, Int.reduceBEq, Int.reduceBNe]; (repeat (with_reducible refine And.intro (by first | omega | rfl | assumption | decide) ?_)); (first | (refine hK _ _ ?_) | (refine ⟨_, rfl, hK _ _ ?_⟩) | (refine Or.inl (hK _ _ ?_))); clear hK K)
          | (with_reducible refine lops_nil ?_)
          | (with_reducible refine lavc_reg ?_)
          | (with_reducible refine lavc_seq ?_)
          | (with_reducible refine lavc_block ?_)
          | (with_reducible refine lavc_skip ?_)
          | (with_reducible refine lavc_exit ?_)
          | (with_reducible refine lavc_ret ?_)
          | (with_reducible refine lavcR_round ?_)
          | (simp only [↓reduceIte, Nat.reduceEqDiff, reduceCtorEq]))
        refine And.intro (by simp) ?_
        simp (disch := first | omega | (simp only [go_sem, isRow, isFlat, Option.isSome_some]; done) | assumption | (simp only [ints_length, List.length_replicate, List.length_set, List.length_append, List.length_take, List.length_drop, List.length_cons, List.length_nil] <;> omega) | fail) only [go_sem, Nat.reduceAdd, Nat.reduceSub, reduceIte, Nat.reduceEqDiff, Int.reduceToNat, Int.reduceBEq, Int.reduceBNe, aret, aretL, aret1, aenv]
        (repeat (with_reducible refine And.intro (by first | omega | rfl | assumption | decide) ?_))
        exact endV (view2 .nil (.nr (NR.v _)))
      | false =>
        rw [if_neg (by simp)]
        refine lavc_cond rfl (fun hc => by cases hc) (fun _ => ?_)
        repeat (first
          | (with_reducible refine lops_step fun K hK => ?_; simp (disch := first | omega | (simp only [go_sem, isRow, isFlat, Option.isSome_some]; done) | assumption | (simp only [ints_length, List.length_replicate, List.length_set, List.length_append, List.length_take, List.length_drop, List.length_cons, List.length_nil] <;> omega) | fail) only [go_sem, Nat.reduceAdd, Nat.reduceSub, reduceIte, Nat.reduceEqDiff, Int.reduceToNat, Int.reduceBEq, Int.reduceBNe]; (repeat (with_reducible refine And.intro (by first | omega | rfl | assumption | decide) ?_)); (first | (refine hK _ _ ?_) | (refine ⟨_, rfl, hK _ _ ?_⟩) | (refine Or.inl (hK _ _ ?_))); clear hK K)
          | (with_reducible refine lops_nil ?_)
          | (with_reducible refine lavc_reg ?_)
          | (with_reducible refine lavc_seq ?_)
          | (with_reducible refine lavc_block ?_)
          | (with_reducible refine lavc_skip ?_)
          | (with_reducible refine lavc_exit ?_)
          | (with_reducible refine lavc_ret ?_)
          | (with_reducible refine lavcR_round ?_)
          | (simp only [↓reduceIte, Nat.reduceEqDiff, reduceCtorEq]))
        refine lavc_cond rfl (fun hc => ?_) (fun hc => ?_) <;> try simp only [decide_eq_true_eq, decide_eq_false_iff_not, Int.not_lt, Int.not_le, beq_iff_eq, bne_iff_ne, bne_eq_false_iff_eq, beq_eq_false_iff_ne, ne_eq, Bool.not_eq_true', Bool.not_eq_false'] at hc
        · rw [if_pos (by omega)]
          repeat (first
            | (with_reducible refine lops_step fun K hK => ?_; simp (disch := first | omega | (simp only [go_sem, isRow, isFlat, Option.isSome_some]; done) | assumption | (simp only [ints_length, List.length_replicate, List.length_set, List.length_append, List.length_take, List.length_drop, List.length_cons, List.length_nil] <;> omega) | fail) only [go_sem, Nat.reduceAdd, Nat.reduceSub, reduceIte, Nat.reduceEqDiff, Int.reduceToNat, Int.reduceBEq, Int.reduceBNe]; (repeat (with_reducible refine And.intro (by first | omega | rfl | assumption | decide) ?_)); (first | (refine hK _ _ ?_) | (refine ⟨_, rfl, hK _ _ ?_⟩) | (refine Or.inl (hK _ _ ?_))); clear hK K)
            | (with_reducible refine lops_nil ?_)
            | (with_reducible refine lavc_reg ?_)
            | (with_reducible refine lavc_seq ?_)
            | (with_reducible refine lavc_block ?_)
            | (with_reducible refine lavc_skip ?_)
            | (with_reducible refine lavc_exit ?_)
            | (with_reducible refine lavc_ret ?_)
            | (with_reducible refine lavcR_round ?_)
            | (simp only [↓reduceIte, Nat.reduceEqDiff, reduceCtorEq]))
          refine And.intro (by simp) ?_
          simp (disch := first | omega | (simp only [go_sem, isRow, isFlat, Option.isSome_some]; done) | assumption | (simp only [ints_length, List.length_replicate, List.length_set, List.length_append, List.length_take, List.length_drop, List.length_cons, List.length_nil] <;> omega) | fail) only [go_sem, Nat.reduceAdd, Nat.reduceSub, reduceIte, Nat.reduceEqDiff, Int.reduceToNat, Int.reduceBEq, Int.reduceBNe, aret, aretL, aret1, aenv]
          (repeat (with_reducible refine And.intro (by first | omega | rfl | assumption | decide) ?_))
          exact endV (view2 .nil (.nr (NR.v _)))
        · rw [if_neg (by omega)]
          repeat (first
            | (with_reducible refine lops_step fun K hK => ?_; simp (disch := first | omega | (simp only [go_sem, isRow, isFlat, Option.isSome_some]; done) | assumption | (simp only [ints_length, List.length_replicate, List.length_set, List.length_append, List.length_take, List.length_drop, List.length_cons, List.length_nil] <;> omega) | fail) only [go_sem, Nat.reduceAdd, Nat.reduceSub, reduceIte, Nat.reduceEqDiff, Int.reduceToNat, Int.reduceBEq, Int.reduceBNe]; (repeat (with_reducible refine And.intro (by first | omega | rfl | assumption | decide) ?_)); (first | (refine hK _ _ ?_) | (refine ⟨_, rfl, hK _ _ ?_⟩) | (refine Or.inl (hK _ _ ?_))); clear hK K)
            | (with_reducible refine lops_nil ?_)
            | (with_reducible refine lavc_reg ?_)
            | (with_reducible refine lavc_seq ?_)
            | (with_reducible refine lavc_block ?_)
            | (with_reducible refine lavc_skip ?_)
            | (with_reducible refine lavc_exit ?_)
            | (with_reducible refine lavc_ret ?_)
            | (with_reducible refine lavcR_round ?_)
            | (simp only [↓reduceIte, Nat.reduceEqDiff, reduceCtorEq]))
          refine And.intro (by simp) ?_
          simp (disch := first | omega | (simp only [go_sem, isRow, isFlat, Option.isSome_some]; done) | assumption | (simp only [ints_length, List.length_replicate, List.length_set, List.length_append, List.length_take, List.length_drop, List.length_cons, List.length_nil] <;> omega) | fail) only [go_sem, Nat.reduceAdd, Nat.reduceSub, reduceIte, Nat.reduceEqDiff, Int.reduceToNat, Int.reduceBEq, Int.reduceBNe, aret, aretL, aret1, aenv]
          (repeat (with_reducible refine And.intro (by first | omega | rfl | assumption | decide) ?_))
          refine endV (view2 ?_ (.nr (NR.v _)))
          have hv := View.sl (H := [⟨[.vsl B'.length (ints .u8 B') none, .v (.bool false)], 0, true, 48⟩, ⟨rows .u8 out, v, true, 22⟩]) (lo := 0) (b := 1) (ver := v) (off := 0) (len := out.length) (cap := out.length) (sz := 1) (x := false) (Nat.zero_le _) rfl rfl rfl (Nat.le_refl _) (by simp [hro]) (NR.rows _ _)
          rw [show ((rows IntKind.u8 out).drop 0).take (out.length * 1) = rows .u8 out from by rw [List.drop_zero, List.take_of_length_le (by rw [hro]; omega)]] at hv
          exact hv
    · have d1 : decide ((k : Int) > 0) = true := by simp; omega
      repeat (first
        | (with_reducible refine lops_step fun K hK => ?_; simp (disch := first | omega | (simp only [go_sem, isRow, isFlat, Option.isSome_some]; done) | assumption | (simp only [ints_length, List.length_replicate, List.length_set, List.length_append, List.length_take, List.length_drop, List.length_cons, List.length_nil] <;> omega) | fail) only [go_sem, Nat.reduceAdd, Nat.reduceSub, reduceIte, Nat.reduceEqDiff, Int.reduceToNat, Int.reduceBEq, Int.reduceBNe, d1, Bool.not_true, Bool.not_false, if_true, if_false, Bool.false_eq_true]; (repeat (with_reducible refine And.intro (by first | omega | rfl | assumption | decide) ?_)); (first | (refine hK _ _ ?_) | (refine ⟨_, rfl, hK _ _ ?_⟩) | (refine Or.inl (hK _ _ ?_))); clear hK K)
        | (with_reducible refine lops_nil ?_)
        | (with_reducible refine lavc_reg ?_)
        | (with_reducible refine lavc_seq ?_)
        | (with_reducible refine lavc_block ?_)
        | (with_reducible refine lavc_skip ?_)
        | (with_reducible refine lavc_exit ?_)
        | (with_reducible refine lavc_ret ?_)
        | (with_reducible refine lavcR_round ?_)
        | (simp only [↓reduceIte, Nat.reduceEqDiff, reduceCtorEq]))
      refine lavc_cond rfl (fun hc => by cases hc) (fun _ => ?_)
      repeat (first
        | (with_reducible refine lops_step fun K hK => ?_; simp (disch := first | omega | (simp only [go_sem, isRow, isFlat, Option.isSome_some]; done) | assumption | (simp only [ints_length, List.length_replicate, List.length_set, List.length_append, List.length_take, List.length_drop, List.length_cons, List.length_nil] <;> omega) | fail) only [go_sem, Nat.reduceAdd, Nat.reduceSub, reduceIte, Nat.reduceEqDiff, Int.reduceToNat, Int.reduceBEq, Int.reduceBNe]; (repeat (with_reducible refine And.intro (by first | omega | rfl | assumption | decide) ?_)); (first | (refine hK _ _ ?_) | (refine ⟨_, rfl, hK _ _ ?_⟩) | (refine Or.inl (hK _ _ ?_))); clear hK K)
        | (with_reducible refine lops_nil ?_)
        | (with_reducible refine lavc_reg ?_)
        | (with_reducible refine lavc_seq ?_)
        | (with_reducible refine lavc_block ?_)
        | (with_reducible refine lavc_skip ?_)
        | (with_reducible refine lavc_exit ?_)
        | (with_reducible refine lavc_ret ?_)
        | (with_reducible refine lavcR_round ?_)
        | (simp only [↓reduceIte, Nat.reduceEqDiff, reduceCtorEq]))
      try rw [if_pos rfl]
      refine lavc_cond rfl (fun _ => ?_) (fun hc => by cases hc)
      repeat (first
        | (with_reducible refine lops_step fun K hK => ?_; simp (disch := first | omega | (simp only [go_sem, isRow, isFlat, Option.isSome_some]; done) | assumption | (simp only [ints_length, List.length_replicate, List.length_set, List.length_append, List.length_take, List.length_drop, List.length_cons, List.length_nil] <;> omega) | fail) only [go_sem, Nat.reduceAdd, Nat.reduceSub, reduceIte, Nat.reduceEqDiff, Int.reduceToNat, Int.reduceBEq, Int.reduceBNe]; (repeat (with_reducible refine And.intro (by first | omega | rfl | assumption | decide) ?_)); (first | (refine hK _ _ ?_) | (refine ⟨_, rfl, hK _ _ ?_⟩) | (refine Or.inl (hK _ _ ?_))); clear hK K)
        | (with_reducible refine lops_nil ?_)
        | (with_reducible refine lavc_reg ?_)
        | (with_reducible refine lavc_seq ?_)
        | (with_reducible refine lavc_block ?_)
        | (with_reducible refine lavc_skip ?_)
        | (with_reducible refine lavc_exit ?_)
        | (with_reducible refine lavc_ret ?_)
        | (with_reducible refine lavcR_round ?_)
        | (simp only [↓reduceIte, Nat.reduceEqDiff, reduceCtorEq]))
      refine And.intro (by simp) ?_
      simp (disch := first | omega | (simp only [go_sem, isRow, isFlat, Option.isSome_some]; done) | assumption | (simp only [ints_length, List.length_replicate, List.length_set, List.length_append, List.length_take, List.length_drop, List.length_cons, List.length_nil] <;> omega) | fail) only [go_sem, Nat.reduceAdd, Nat.reduceSub, reduceIte, Nat.reduceEqDiff, Int.reduceToNat, Int.reduceBEq, Int.reduceBNe, aret, aretL, aret1, aenv]
      (repeat (with_reducible refine And.intro (by first | omega | rfl | assumption | decide) ?_))
      exact endV (view2 .nil (.nr (NR.v _)))
theorem AvLe.cx {n : Nat} {cs : List AV} {c : Option Nat} : AvLe (.vsl n cs c) (.vsl n cs none) := fun σ w u h => by
  cases h with
  | vsl B o cap' u hr hm ha hl hx => exact .vsl B o cap' u hr hm ha hl (fun c hc => by cases hc)
  | vsl0 A cap' hx => exact .vsl0 A cap' (fun c hc => by cases hc)
theorem unpack_p (B : List Int) (cx : Option Nat) (hB : By B) (h1 : B.length ≤ 1000000) :
    PCall Tryd.prog glob 15 [.vsl B.length (ints .u8 B) cx] (.tup [.vsl (unp B).1.length (rows .u8 (unp B).1) none, .v (.int .i64 (unp B).2)]) :=
  (unpack0_p B hB h1).les ⟨AvLe.cx, trivial⟩
end Go.Abs.S
