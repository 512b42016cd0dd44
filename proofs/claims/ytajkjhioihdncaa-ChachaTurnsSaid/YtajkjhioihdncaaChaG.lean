/- The reference's short key. -/
import Derived.Test.YtajkjhioihdncaaChaF
namespace Go.Abs.S
attribute [local go_sem] lguard aopO aop nxL aenv toAV tput aLoad aStore vcells aBin aUn aAlloc aBox aBuild aBSlice afill aConv isIntT aappZ aCap aArr aMM aMake aSlice bnd3 bnd aFldAddr aFld aIdxAddr aIdx aExt aLen aCopy aapp aappQ agh acont List.getD_cons_zero List.getD_cons_succ List.set_cons_zero List.set_cons_succ List.getElem?_cons_zero List.getElem?_cons_succ List.length_cons List.length_nil List.map_cons List.map_nil ints_length if_true if_false Bool.false_eq_true true_and and_true eq_self ne_eq not_false_eq_true not_true_eq_false beq_self_eq_true Nat.zero_add Nat.add_zero Nat.mul_one Nat.zero_mul Int.toNat_natCast List.toList_toArray List.all_cons List.all_nil AV.one Value.oneCell' Bool.and_true Bool.true_and forall_const true_implies false_implies implies_true Option.map_some Option.map_none Option.isSome_some Option.isSome_none imp_self rdP_flat rdP_row splice_one ints_set ints_get List.append_nil List.cons_append List.nil_append List.getElem?_toArray List.drop_zero ints_drop ints_take List.take_of_length_le splice_all ints_one Option.some.injEq Option.getD_some List.length_replicate zArr List.map_replicate rep_ints splice_intsR List.length_set List.length_append List.flatten_replicate_singleton rep_slice rep_string rep_bool rep_iface List.replicate_zero if_pos if_neg List.mapM_cons List.mapM_nil Option.pure_def Option.bind_eq_bind Option.bind_some Bool.true_eq_false Bool.not_false Bool.not_true get_concat set_concat
open Go.Proofs
open Go.Proofs.Ytajkjhioihdncaa.Ext (W32 W32.words B8.append U32 B8 four wordsOf startOf startOf_length stir stirN sigma blockP shortP bytesOf_length bytesOf_step)
set_option linter.unusedVariables false
set_option linter.unusedSimpArgs false
set_option maxRecDepth 100000
set_option maxHeartbeats 2000000
/-- The words that the short key has, of the first k. -/
def sh (L : List Int) (k : Nat) : List Int := L.take (min k 4) ++ (L.take k).drop 12
theorem bytes_app (a b : List Int) : Ytajkjhioihdncaa.Ext.bytesOf (a ++ b) = Ytajkjhioihdncaa.Ext.bytesOf a ++ Ytajkjhioihdncaa.Ext.bytesOf b := by simp [Ytajkjhioihdncaa.Ext.bytesOf]
theorem sh_yes (L : List Int) (k : Nat) (hl : L.length = 16) (hk : k < 16) (h : k < 4 ∨ 12 ≤ k) : Ytajkjhioihdncaa.Ext.bytesOf (sh L (k + 1)) = Ytajkjhioihdncaa.Ext.bytesOf (sh L k) ++ four (L.getD k 0) := by
  have hg : L.getD k 0 = L[k] := by rw [List.getD_eq_getElem?_getD, List.getElem?_eq_getElem (by omega)]; rfl
  unfold sh
  rcases h with h | h
  · rw [Nat.min_eq_left (by omega), Nat.min_eq_left (by omega), List.drop_eq_nil_of_le (by rw [List.length_take]; omega), List.drop_eq_nil_of_le (by rw [List.length_take]; omega), List.append_nil, List.append_nil, bytesOf_step L k (by omega), hg]
  · have ht : L.take (k + 1) = L.take k ++ [L[k]] := List.take_succ_eq_append_getElem (by omega)
    rw [Nat.min_eq_right (by omega), Nat.min_eq_right (by omega), ht, List.drop_append_of_le_length (by rw [List.length_take]; omega), bytes_app, bytes_app, bytes_app, hg, List.append_assoc]
    simp [Ytajkjhioihdncaa.Ext.bytesOf]
theorem sh_no (L : List Int) (k : Nat) (hl : L.length = 16) (h1 : 4 ≤ k) (h2 : k < 12) : sh L (k + 1) = sh L k := by
  unfold sh
  rw [Nat.min_eq_right (by omega), Nat.min_eq_right (by omega), List.drop_eq_nil_of_le (by rw [List.length_take]; omega), List.drop_eq_nil_of_le (by rw [List.length_take]; omega)]
theorem sh_end (L : List Int) (hl : L.length = 16) : Ytajkjhioihdncaa.Ext.bytesOf (sh L 16) = (Ytajkjhioihdncaa.Ext.bytesOf L).take 16 ++ (Ytajkjhioihdncaa.Ext.bytesOf L).drop 48 := by
  have e4 : Ytajkjhioihdncaa.Ext.bytesOf L = Ytajkjhioihdncaa.Ext.bytesOf (L.take 4) ++ Ytajkjhioihdncaa.Ext.bytesOf (L.drop 4) := by rw [← bytes_app, List.take_append_drop]
  have e12 : Ytajkjhioihdncaa.Ext.bytesOf L = Ytajkjhioihdncaa.Ext.bytesOf (L.take 12) ++ Ytajkjhioihdncaa.Ext.bytesOf (L.drop 12) := by rw [← bytes_app, List.take_append_drop]
  have l4 : (Ytajkjhioihdncaa.Ext.bytesOf (L.take 4)).length = 16 := by rw [bytesOf_length, List.length_take]; omega
  have l12 : (Ytajkjhioihdncaa.Ext.bytesOf (L.take 12)).length = 48 := by rw [bytesOf_length, List.length_take]; omega
  have h1 : (Ytajkjhioihdncaa.Ext.bytesOf L).take 16 = Ytajkjhioihdncaa.Ext.bytesOf (L.take 4) := by rw [e4, List.take_append_of_le_length (by omega), List.take_of_length_le (by omega)]
  have h2 : (Ytajkjhioihdncaa.Ext.bytesOf L).drop 48 = Ytajkjhioihdncaa.Ext.bytesOf (L.drop 12) := by rw [e12, ← l12, List.drop_left]
  rw [h1, h2, ← bytes_app]
  unfold sh
  rw [Nat.min_eq_right (by omega), List.take_of_length_le (by omega : L.length ≤ 16)]
/-- How far the short key is. -/
def ShAt (L : List Int) (n : Nat) (x : Nat × AV × AHeap) : Prop :=
  n + x.1 = 16 ∧ ((x.1 = 0 ∧ x.2.1 = .v (.slice none 0 0) ∧ x.2.2 = []) ∨ (0 < x.1 ∧ ∃ v len, x.2.1 = .sl 1 v 0 len len 1 false ∧ x.2.2 = [⟨ints .u8 (Ytajkjhioihdncaa.Ext.bytesOf (sh L x.1)), v, true, 5⟩] ∧ (Ytajkjhioihdncaa.Ext.bytesOf (sh L x.1)).length = len ∧ len ≤ 64))
theorem refShort_p (key more : List Int) (c1 c2 : Option Nat) (hk : key.length = 32) (hn : more.length = 16) (bk : B8 key) (bn : B8 more) :
    PCall Try.prog glob 12 [.vsl 32 (ints .u8 key) c1, .vsl 16 (ints .u8 more) c2] (.vsl 32 (ints .u8 (shortP key more)) none) := by
  refine PCall.of ctx.nr (by (repeat (refine List.forall_mem_cons.2 (And.intro (by first | exact NR.v _ | exact NR.agg (NR.ints _ _) | exact NR.vsl (NR.ints _ _) | exact NR.vptr (NR.ints _ _) | assumption) ?_))); exact fun _ h => absurd h List.not_mem_nil) (NR.vsl (NR.ints _ _)) ?_
  refine lcall12 (by simp) 0 (Nat.le_refl _) ?_
  unfold lc12
  simp only [List.length_cons, List.length_nil, Nat.reduceAdd, Nat.reduceSub, List.replicate_succ, List.replicate_zero, List.cons_append, List.nil_append]
  have hst := start_p key more c1 c2 32 16 hk hn (by omega) (by omega) (by omega) (by omega) bk bn
  have hwl := startOf_length key more
  have hww : W32 (startOf key more) := W32.words ((Ytajkjhioihdncaa.Ext.B8.sigma.append bk).append bn)
  have hr2 := refStir_p (startOf key more) hwl hww
  have hsl := stir_length (startOf key more) hwl
  have hsw : W32 (stir (startOf key more)) := hww.stirN 10
  have hend := sh_end (stir (startOf key more)) hsl
  have hlen : ((Ytajkjhioihdncaa.Ext.bytesOf (stir (startOf key more))).take 16 ++ (Ytajkjhioihdncaa.Ext.bytesOf (stir (startOf key more))).drop 48).length = 32 := by simp [bytesOf_length, hsl]
  unfold shortP
  rw [← hend] at hlen ⊢
  clear hend
  obtain ⟨L, hL⟩ : ∃ L, stir (startOf key more) = L := ⟨_, rfl⟩
  rw [hL] at hr2 hsl hsw hlen ⊢
  repeat (first
    | (with_reducible refine lops_step fun K hK => ?_; simp (disch := first | omega | (simp only [go_sem, isRow, isFlat, Option.isSome_some]; done) | assumption | (simp only [ints_length, List.length_replicate, List.length_set, List.length_append, List.length_take, List.length_drop, List.length_cons, List.length_nil] <;> omega) | fail) only [go_sem, Nat.reduceAdd, Nat.reduceSub, reduceIte, Nat.reduceEqDiff, Int.reduceToNat, hsl]; (repeat (with_reducible refine And.intro (by first | omega | rfl | assumption | decide) ?_)); (first | (refine hK _ _ ?_) | (refine ⟨_, rfl, hK _ _ ?_⟩) | (refine Or.inl (hK _ _ ?_)) | (refine ⟨_, _, hst.go _, (by first | exact ⟨[], (List.append_nil _).symm⟩ | exact ⟨_, rfl⟩), hK _ _ ?_⟩) | (refine ⟨_, _, hst.go _, hK _ _ ?_⟩) | (refine ⟨_, _, (hst.go _).weakQ, hK _ _ ?_⟩) | (refine ⟨_, _, (hst.go _).weakQ, (by first | exact ⟨[], (List.append_nil _).symm⟩ | exact ⟨_, rfl⟩), hK _ _ ?_⟩) | (refine ⟨_, _, (hst.go _).weakQ, hK _ _ ?_⟩) | (refine ⟨_, _, ((hst.go _).weakQ).weakQ, hK _ _ ?_⟩) | (refine ⟨_, _, hr2.go _, (by first | exact ⟨[], (List.append_nil _).symm⟩ | exact ⟨_, rfl⟩), hK _ _ ?_⟩) | (refine ⟨_, _, hr2.go _, hK _ _ ?_⟩) | (refine ⟨_, _, (hr2.go _).weakQ, hK _ _ ?_⟩) | (refine ⟨_, _, (hr2.go _).weakQ, (by first | exact ⟨[], (List.append_nil _).symm⟩ | exact ⟨_, rfl⟩), hK _ _ ?_⟩) | (refine ⟨_, _, (hr2.go _).weakQ, hK _ _ ?_⟩) | (refine ⟨_, _, ((hr2.go _).weakQ).weakQ, hK _ _ ?_⟩)); clear hK K)
    | (with_reducible refine lops_nil ?_)
    | (with_reducible refine lavc_reg ?_)
    | (with_reducible refine lavc_seq ?_)
    | (with_reducible refine lavc_block ?_)
    | (with_reducible refine lavc_skip ?_)
    | (with_reducible refine lavc_exit ?_)
    | (with_reducible refine lavc_ret ?_)
    | (simp only [↓reduceIte, Nat.reduceEqDiff, reduceCtorEq]))
  refine lavc_loopM ms12_0 (ShAt L) (fun x => [(6, x.2.1), (12, .v (.int .i64 x.1))]) (fun x => ⟨ints .i64 L, 0, true, 55⟩ :: x.2.2) 16 (0, .v (.slice none 0 0), []) ⟨rfl, .inl ⟨rfl, rfl, rfl⟩⟩ ?_ rfl ?_
  · simp only [ms12_0, putAll, blank, List.foldl_cons, List.foldl_nil, List.set_cons_succ, List.set_cons_zero, List.cons_append, List.nil_append, ALe, true_or, or_true, and_true, true_and, eq_self, reduceCtorEq, false_or]
    rfl
  rintro n ⟨k, s, h⟩ ⟨hk1, hs⟩
  simp only at hk1 hs
  simp only [ms12_0, putAll, blank, List.foldl_cons, List.foldl_nil, List.set_cons_succ, List.set_cons_zero, List.cons_append, List.nil_append]
  repeat (first
    | (with_reducible refine lops_step fun K hK => ?_; simp (disch := first | omega | (simp only [go_sem, isRow, isFlat, Option.isSome_some]; done) | assumption | (simp only [ints_length, List.length_replicate, List.length_set, List.length_append, List.length_take, List.length_drop, List.length_cons, List.length_nil] <;> omega) | fail) only [go_sem, Nat.reduceAdd, Nat.reduceSub, reduceIte, Nat.reduceEqDiff, Int.reduceToNat]; (repeat (with_reducible refine And.intro (by first | omega | rfl | assumption | decide) ?_)); (first | (refine hK _ _ ?_) | (refine ⟨_, rfl, hK _ _ ?_⟩) | (refine Or.inl (hK _ _ ?_))); clear hK K)
    | (with_reducible refine lops_nil ?_)
    | (with_reducible refine lavc_reg ?_)
    | (with_reducible refine lavc_seq ?_)
    | (with_reducible refine lavc_block ?_)
    | (with_reducible refine lavc_skip ?_)
    | (with_reducible refine lavc_exit ?_)
    | (with_reducible refine lavc_ret ?_)
    | (simp only [↓reduceIte, Nat.reduceEqDiff, reduceCtorEq]))
  refine lavc_cond rfl (fun hc => ?_) (fun hc => ?_) <;> try simp only [decide_eq_true_eq, decide_eq_false_iff_not, Int.not_lt, Int.not_le, beq_iff_eq, bne_iff_ne, bne_eq_false_iff_eq, beq_eq_false_iff_ne, ne_eq, Bool.not_eq_true', Bool.not_eq_false'] at hc
  · have e2 := i64n ((k : Int) + 1) (k + 1) (by omega) (by omega)
    have hf := four_p (L.getD k 0) (hsw.get k)
    have hfl : (four (L.getD k 0)).length = 4 := rfl
    have e5 : (ints IntKind.u8 (Ytajkjhioihdncaa.Ext.bytesOf (sh L k))).take (Ytajkjhioihdncaa.Ext.bytesOf (sh L k)).length = ints .u8 (Ytajkjhioihdncaa.Ext.bytesOf (sh L k)) := List.take_of_length_le (by rw [ints_length]; omega)
    rcases hs with ⟨rfl, rfl, rfl⟩ | ⟨hpos, v, len, rfl, rfl, hlen2, hle⟩
    · have hy := sh_yes L 0 hsl (by omega) (.inl (by omega))
      have d1 : decide (((0 : Nat) : Int) < 4) = true := rfl
      repeat (first
        | (with_reducible refine lops_step fun K hK => ?_; simp (disch := first | omega | (simp only [go_sem, isRow, isFlat, Option.isSome_some]; done) | assumption | (simp only [ints_length, List.length_replicate, List.length_set, List.length_append, List.length_take, List.length_drop, List.length_cons, List.length_nil] <;> omega) | fail) only [go_sem, Nat.reduceAdd, Nat.reduceSub, reduceIte, Nat.reduceEqDiff, Int.reduceToNat, d1]; (repeat (with_reducible refine And.intro (by first | omega | rfl | assumption | decide) ?_)); (first | (refine hK _ _ ?_) | (refine ⟨_, rfl, hK _ _ ?_⟩) | (refine Or.inl (hK _ _ ?_))); clear hK K)
        | (with_reducible refine lops_nil ?_)
        | (with_reducible refine lavc_reg ?_)
        | (with_reducible refine lavc_seq ?_)
        | (with_reducible refine lavc_block ?_)
        | (with_reducible refine lavc_skip ?_)
        | (with_reducible refine lavc_exit ?_)
        | (with_reducible refine lavc_ret ?_)
        | (simp only [↓reduceIte, Nat.reduceEqDiff, reduceCtorEq]))
      refine lavc_cond rfl (fun hc => ?_) (fun hc => ?_) <;> try simp only [decide_eq_true_eq, decide_eq_false_iff_not, Int.not_lt, Int.not_le, beq_iff_eq, bne_iff_ne, bne_eq_false_iff_eq, beq_eq_false_iff_ne, ne_eq, Bool.not_eq_true', Bool.not_eq_false'] at hc
      · repeat (first
          | (with_reducible refine lops_step fun K hK => ?_; simp (disch := first | omega | (simp only [go_sem, isRow, isFlat, Option.isSome_some]; done) | assumption | (simp only [ints_length, List.length_replicate, List.length_set, List.length_append, List.length_take, List.length_drop, List.length_cons, List.length_nil] <;> omega) | fail) only [go_sem, Nat.reduceAdd, Nat.reduceSub, reduceIte, Nat.reduceEqDiff, Int.reduceToNat, e2, hfl]; (repeat (with_reducible refine And.intro (by first | omega | rfl | assumption | decide) ?_)); (first | (refine hK _ _ ?_) | (refine ⟨_, rfl, hK _ _ ?_⟩) | (refine Or.inl (hK _ _ ?_)) | (refine ⟨_, _, hf.go _, (by first | exact ⟨[], (List.append_nil _).symm⟩ | exact ⟨_, rfl⟩), hK _ _ ?_⟩) | (refine ⟨_, _, hf.go _, hK _ _ ?_⟩) | (refine ⟨_, _, (hf.go _).weakQ, hK _ _ ?_⟩) | (refine ⟨_, _, (hf.go _).weakQ, (by first | exact ⟨[], (List.append_nil _).symm⟩ | exact ⟨_, rfl⟩), hK _ _ ?_⟩) | (refine ⟨_, _, (hf.go _).weakQ, hK _ _ ?_⟩) | (refine ⟨_, _, ((hf.go _).weakQ).weakQ, hK _ _ ?_⟩)); clear hK K)
          | (with_reducible refine lops_nil ?_)
          | (with_reducible refine lavc_reg ?_)
          | (with_reducible refine lavc_seq ?_)
          | (with_reducible refine lavc_block ?_)
          | (with_reducible refine lavc_skip ?_)
          | (with_reducible refine lavc_exit ?_)
          | (with_reducible refine lavc_ret ?_)
          | (simp only [↓reduceIte, Nat.reduceEqDiff, reduceCtorEq]))
        refine ⟨n - 1, (1, .sl 1 0 0 4 4 1 false, [⟨ints .u8 (Ytajkjhioihdncaa.Ext.bytesOf (sh L 1)), 0, true, 5⟩]), by omega, ⟨by simp only; omega, .inr ⟨by simp only; omega, 0, 4, rfl, rfl, by simp only; rw [show (1 : Nat) = 0 + 1 from rfl, hy, List.length_append, hfl]; rfl, by omega⟩⟩, ?_, ?_⟩
        · simp only [ms12_0, putAll, blank, List.foldl_cons, List.foldl_nil, List.set_cons_succ, List.set_cons_zero, List.cons_append, List.nil_append, ALe, true_or, or_true, and_true, true_and, eq_self, reduceCtorEq, false_or]
        · rw [show (1 : Nat) = 0 + 1 from rfl, hy]
          try rfl
      · cases hc
    · have hlec : (sh L k).length ≤ 8 ∧ (k < 12 → (sh L k).length ≤ 4) ∧ (k < 16 → (sh L k).length ≤ 7) := by
        simp only [sh, List.length_append, List.length_take, List.length_drop]
        omega
      have hbl := hlen2
      rw [bytesOf_length] at hlen2
      rcases (by omega : k < 4 ∨ (4 ≤ k ∧ k < 12) ∨ 12 ≤ k) with hsel | ⟨hsel1, hsel2⟩ | hsel
      · have hy := sh_yes L k hsl (by omega) (.inl hsel)
        have hyl : (Ytajkjhioihdncaa.Ext.bytesOf (sh L (k + 1))).length = (Ytajkjhioihdncaa.Ext.bytesOf (sh L k)).length + 4 := by rw [hy, List.length_append, hfl]
        rw [bytesOf_length (sh L k), hlen2] at hyl
        rw [bytesOf_length (sh L k), hlen2] at e5
        have d1 : decide ((k : Int) < 4) = true := by simp; omega
        repeat (first
          | (with_reducible refine lops_step fun K hK => ?_; simp (disch := first | omega | (simp only [go_sem, isRow, isFlat, Option.isSome_some]; done) | assumption | (simp only [ints_length, List.length_replicate, List.length_set, List.length_append, List.length_take, List.length_drop, List.length_cons, List.length_nil] <;> omega) | fail) only [go_sem, Nat.reduceAdd, Nat.reduceSub, reduceIte, Nat.reduceEqDiff, Int.reduceToNat, d1]; (repeat (with_reducible refine And.intro (by first | omega | rfl | assumption | decide) ?_)); (first | (refine hK _ _ ?_) | (refine ⟨_, rfl, hK _ _ ?_⟩) | (refine Or.inl (hK _ _ ?_))); clear hK K)
          | (with_reducible refine lops_nil ?_)
          | (with_reducible refine lavc_reg ?_)
          | (with_reducible refine lavc_seq ?_)
          | (with_reducible refine lavc_block ?_)
          | (with_reducible refine lavc_skip ?_)
          | (with_reducible refine lavc_exit ?_)
          | (with_reducible refine lavc_ret ?_)
          | (simp only [↓reduceIte, Nat.reduceEqDiff, reduceCtorEq]))
        refine lavc_cond rfl (fun hc => ?_) (fun hc => ?_) <;> try simp only [decide_eq_true_eq, decide_eq_false_iff_not, Int.not_lt, Int.not_le, beq_iff_eq, bne_iff_ne, bne_eq_false_iff_eq, beq_eq_false_iff_ne, ne_eq, Bool.not_eq_true', Bool.not_eq_false'] at hc
        · repeat (first
            | (with_reducible refine lops_step fun K hK => ?_; simp (disch := first | omega | (simp only [go_sem, isRow, isFlat, Option.isSome_some]; done) | assumption | (simp only [ints_length, List.length_replicate, List.length_set, List.length_append, List.length_take, List.length_drop, List.length_cons, List.length_nil] <;> omega) | fail) only [go_sem, Nat.reduceAdd, Nat.reduceSub, reduceIte, Nat.reduceEqDiff, Int.reduceToNat, e2, hfl, e5, ints_append]; (repeat (with_reducible refine And.intro (by first | omega | rfl | assumption | decide) ?_)); (first | (refine hK _ _ ?_) | (refine ⟨_, rfl, hK _ _ ?_⟩) | (refine Or.inl (hK _ _ ?_)) | (refine ⟨_, _, hf.go _, (by first | exact ⟨[], (List.append_nil _).symm⟩ | exact ⟨_, rfl⟩), hK _ _ ?_⟩) | (refine ⟨_, _, hf.go _, hK _ _ ?_⟩) | (refine ⟨_, _, (hf.go _).weakQ, hK _ _ ?_⟩) | (refine ⟨_, _, (hf.go _).weakQ, (by first | exact ⟨[], (List.append_nil _).symm⟩ | exact ⟨_, rfl⟩), hK _ _ ?_⟩) | (refine ⟨_, _, (hf.go _).weakQ, hK _ _ ?_⟩) | (refine ⟨_, _, ((hf.go _).weakQ).weakQ, hK _ _ ?_⟩)); clear hK K)
            | (with_reducible refine lops_nil ?_)
            | (with_reducible refine lavc_reg ?_)
            | (with_reducible refine lavc_seq ?_)
            | (with_reducible refine lavc_block ?_)
            | (with_reducible refine lavc_skip ?_)
            | (with_reducible refine lavc_exit ?_)
            | (with_reducible refine lavc_ret ?_)
            | (simp only [↓reduceIte, Nat.reduceEqDiff, reduceCtorEq]))
          refine ⟨n - 1, (k + 1, .sl 1 (v + 1) 0 (len + 4) (len + 4) 1 false, [⟨ints .u8 (Ytajkjhioihdncaa.Ext.bytesOf (sh L (k + 1))), v + 1, true, 5⟩]), by omega, ⟨by simp only; omega, .inr ⟨by simp only; omega, v + 1, len + 4, rfl, rfl, by simp only; omega, by omega⟩⟩, ?_, ?_⟩
          · simp only [ms12_0, putAll, blank, List.foldl_cons, List.foldl_nil, List.set_cons_succ, List.set_cons_zero, List.cons_append, List.nil_append, ALe, true_or, or_true, and_true, true_and, eq_self, reduceCtorEq, false_or]
          · rw [hy]
            try rfl
        · cases hc
      · have hy := sh_no L k hsl hsel1 hsel2
        have d1 : decide ((k : Int) < 4) = false := by simp; omega
        have d2 : decide ((k : Int) ≥ 12) = false := by simp; omega
        repeat (first
          | (with_reducible refine lops_step fun K hK => ?_; simp (disch := first | omega | (simp only [go_sem, isRow, isFlat, Option.isSome_some]; done) | assumption | (simp only [ints_length, List.length_replicate, List.length_set, List.length_append, List.length_take, List.length_drop, List.length_cons, List.length_nil] <;> omega) | fail) only [go_sem, Nat.reduceAdd, Nat.reduceSub, reduceIte, Nat.reduceEqDiff, Int.reduceToNat, d1, d2]; (repeat (with_reducible refine And.intro (by first | omega | rfl | assumption | decide) ?_)); (first | (refine hK _ _ ?_) | (refine ⟨_, rfl, hK _ _ ?_⟩) | (refine Or.inl (hK _ _ ?_))); clear hK K)
          | (with_reducible refine lops_nil ?_)
          | (with_reducible refine lavc_reg ?_)
          | (with_reducible refine lavc_seq ?_)
          | (with_reducible refine lavc_block ?_)
          | (with_reducible refine lavc_skip ?_)
          | (with_reducible refine lavc_exit ?_)
          | (with_reducible refine lavc_ret ?_)
          | (simp only [↓reduceIte, Nat.reduceEqDiff, reduceCtorEq]))
        refine lavc_cond rfl (fun hc => ?_) (fun hc => ?_) <;> try simp only [decide_eq_true_eq, decide_eq_false_iff_not, Int.not_lt, Int.not_le, beq_iff_eq, bne_iff_ne, bne_eq_false_iff_eq, beq_eq_false_iff_ne, ne_eq, Bool.not_eq_true', Bool.not_eq_false'] at hc
        · cases hc
        · repeat (first
            | (with_reducible refine lops_step fun K hK => ?_; simp (disch := first | omega | (simp only [go_sem, isRow, isFlat, Option.isSome_some]; done) | assumption | (simp only [ints_length, List.length_replicate, List.length_set, List.length_append, List.length_take, List.length_drop, List.length_cons, List.length_nil] <;> omega) | fail) only [go_sem, Nat.reduceAdd, Nat.reduceSub, reduceIte, Nat.reduceEqDiff, Int.reduceToNat, e2]; (repeat (with_reducible refine And.intro (by first | omega | rfl | assumption | decide) ?_)); (first | (refine hK _ _ ?_) | (refine ⟨_, rfl, hK _ _ ?_⟩) | (refine Or.inl (hK _ _ ?_))); clear hK K)
            | (with_reducible refine lops_nil ?_)
            | (with_reducible refine lavc_reg ?_)
            | (with_reducible refine lavc_seq ?_)
            | (with_reducible refine lavc_block ?_)
            | (with_reducible refine lavc_skip ?_)
            | (with_reducible refine lavc_exit ?_)
            | (with_reducible refine lavc_ret ?_)
            | (simp only [↓reduceIte, Nat.reduceEqDiff, reduceCtorEq]))
          refine ⟨n - 1, (k + 1, .sl 1 v 0 len len 1 false, [⟨ints .u8 (Ytajkjhioihdncaa.Ext.bytesOf (sh L (k + 1))), v, true, 5⟩]), by omega, ⟨by simp only; omega, .inr ⟨by simp only; omega, v, len, rfl, rfl, by simp only; rw [hy, bytesOf_length]; omega, by omega⟩⟩, ?_, by rw [hy]⟩
          simp only [ms12_0, putAll, blank, List.foldl_cons, List.foldl_nil, List.set_cons_succ, List.set_cons_zero, List.cons_append, List.nil_append, ALe, true_or, or_true, and_true, true_and, eq_self, reduceCtorEq, false_or]
      · have hy := sh_yes L k hsl (by omega) (.inr hsel)
        have hyl : (Ytajkjhioihdncaa.Ext.bytesOf (sh L (k + 1))).length = (Ytajkjhioihdncaa.Ext.bytesOf (sh L k)).length + 4 := by rw [hy, List.length_append, hfl]
        rw [bytesOf_length (sh L k), hlen2] at hyl
        rw [bytesOf_length (sh L k), hlen2] at e5
        have d1 : decide ((k : Int) < 4) = false := by simp; omega
        have d2 : decide ((k : Int) ≥ 12) = true := by simp; omega
        repeat (first
          | (with_reducible refine lops_step fun K hK => ?_; simp (disch := first | omega | (simp only [go_sem, isRow, isFlat, Option.isSome_some]; done) | assumption | (simp only [ints_length, List.length_replicate, List.length_set, List.length_append, List.length_take, List.length_drop, List.length_cons, List.length_nil] <;> omega) | fail) only [go_sem, Nat.reduceAdd, Nat.reduceSub, reduceIte, Nat.reduceEqDiff, Int.reduceToNat, d1, d2]; (repeat (with_reducible refine And.intro (by first | omega | rfl | assumption | decide) ?_)); (first | (refine hK _ _ ?_) | (refine ⟨_, rfl, hK _ _ ?_⟩) | (refine Or.inl (hK _ _ ?_))); clear hK K)
          | (with_reducible refine lops_nil ?_)
          | (with_reducible refine lavc_reg ?_)
          | (with_reducible refine lavc_seq ?_)
          | (with_reducible refine lavc_block ?_)
          | (with_reducible refine lavc_skip ?_)
          | (with_reducible refine lavc_exit ?_)
          | (with_reducible refine lavc_ret ?_)
          | (simp only [↓reduceIte, Nat.reduceEqDiff, reduceCtorEq]))
        refine lavc_cond rfl (fun hc => ?_) (fun hc => ?_) <;> try simp only [decide_eq_true_eq, decide_eq_false_iff_not, Int.not_lt, Int.not_le, beq_iff_eq, bne_iff_ne, bne_eq_false_iff_eq, beq_eq_false_iff_ne, ne_eq, Bool.not_eq_true', Bool.not_eq_false'] at hc
        · repeat (first
            | (with_reducible refine lops_step fun K hK => ?_; simp (disch := first | omega | (simp only [go_sem, isRow, isFlat, Option.isSome_some]; done) | assumption | (simp only [ints_length, List.length_replicate, List.length_set, List.length_append, List.length_take, List.length_drop, List.length_cons, List.length_nil] <;> omega) | fail) only [go_sem, Nat.reduceAdd, Nat.reduceSub, reduceIte, Nat.reduceEqDiff, Int.reduceToNat, e2, hfl, e5, ints_append]; (repeat (with_reducible refine And.intro (by first | omega | rfl | assumption | decide) ?_)); (first | (refine hK _ _ ?_) | (refine ⟨_, rfl, hK _ _ ?_⟩) | (refine Or.inl (hK _ _ ?_)) | (refine ⟨_, _, hf.go _, (by first | exact ⟨[], (List.append_nil _).symm⟩ | exact ⟨_, rfl⟩), hK _ _ ?_⟩) | (refine ⟨_, _, hf.go _, hK _ _ ?_⟩) | (refine ⟨_, _, (hf.go _).weakQ, hK _ _ ?_⟩) | (refine ⟨_, _, (hf.go _).weakQ, (by first | exact ⟨[], (List.append_nil _).symm⟩ | exact ⟨_, rfl⟩), hK _ _ ?_⟩) | (refine ⟨_, _, (hf.go _).weakQ, hK _ _ ?_⟩) | (refine ⟨_, _, ((hf.go _).weakQ).weakQ, hK _ _ ?_⟩)); clear hK K)
            | (with_reducible refine lops_nil ?_)
            | (with_reducible refine lavc_reg ?_)
            | (with_reducible refine lavc_seq ?_)
            | (with_reducible refine lavc_block ?_)
            | (with_reducible refine lavc_skip ?_)
            | (with_reducible refine lavc_exit ?_)
            | (with_reducible refine lavc_ret ?_)
            | (simp only [↓reduceIte, Nat.reduceEqDiff, reduceCtorEq]))
          refine ⟨n - 1, (k + 1, .sl 1 (v + 1) 0 (len + 4) (len + 4) 1 false, [⟨ints .u8 (Ytajkjhioihdncaa.Ext.bytesOf (sh L (k + 1))), v + 1, true, 5⟩]), by omega, ⟨by simp only; omega, .inr ⟨by simp only; omega, v + 1, len + 4, rfl, rfl, by simp only; omega, by omega⟩⟩, ?_, ?_⟩
          · simp only [ms12_0, putAll, blank, List.foldl_cons, List.foldl_nil, List.set_cons_succ, List.set_cons_zero, List.cons_append, List.nil_append, ALe, true_or, or_true, and_true, true_and, eq_self, reduceCtorEq, false_or]
          · rw [hy]
            try rfl
        · cases hc
  · obtain rfl : k = 16 := by omega
    rcases hs with ⟨h, _⟩ | ⟨_, v, len, rfl, rfl, hlen2, hle⟩
    · cases h
    · rw [hlen] at hlen2
      subst hlen2
      repeat (first
        | (with_reducible refine lops_step fun K hK => ?_; simp (disch := first | omega | (simp only [go_sem, isRow, isFlat, Option.isSome_some]; done) | assumption | (simp only [ints_length, List.length_replicate, List.length_set, List.length_append, List.length_take, List.length_drop, List.length_cons, List.length_nil] <;> omega) | fail) only [go_sem, Nat.reduceAdd, Nat.reduceSub, reduceIte, Nat.reduceEqDiff, Int.reduceToNat]; (repeat (with_reducible refine And.intro (by first | omega | rfl | assumption | decide) ?_)); (first | (refine hK _ _ ?_) | (refine ⟨_, rfl, hK _ _ ?_⟩) | (refine Or.inl (hK _ _ ?_))); clear hK K)
        | (with_reducible refine lops_nil ?_)
        | (with_reducible refine lavc_reg ?_)
        | (with_reducible refine lavc_seq ?_)
        | (with_reducible refine lavc_block ?_)
        | (with_reducible refine lavc_skip ?_)
        | (with_reducible refine lavc_exit ?_)
        | (with_reducible refine lavc_ret ?_)
        | (simp only [↓reduceIte, Nat.reduceEqDiff, reduceCtorEq]))
      refine And.intro (by simp) ?_
      simp (disch := first | omega | (simp only [go_sem, isRow, isFlat, Option.isSome_some]; done) | assumption | (simp only [ints_length, List.length_replicate, List.length_set, List.length_append, List.length_take, List.length_drop, List.length_cons, List.length_nil] <;> omega) | fail) only [go_sem, Nat.reduceAdd, Nat.reduceSub, reduceIte, Nat.reduceEqDiff, Int.reduceToNat, aret, aretL, aret1, aenv]
      (repeat (with_reducible refine And.intro (by first | omega | rfl | assumption | decide) ?_))
      exact endI rfl hlen (Nat.le_refl _)
end Go.Abs.S
