/- The reference's bytes together with the stream. -/
import Derived.Test.YtajkjhioihdncaaChaG
import Derived.Test.YtajkjhioihdncaaChaI
namespace Go.Abs.S
attribute [local go_sem] lguard aopO aop nxL aenv toAV tput aLoad aStore vcells aBin aUn aAlloc aBox aBuild aBSlice afill aConv isIntT aappZ aCap aArr aMM aMake aSlice bnd3 bnd aFldAddr aFld aIdxAddr aIdx aExt aLen aCopy aapp aappQ agh acont List.getD_cons_zero List.getD_cons_succ List.set_cons_zero List.set_cons_succ List.getElem?_cons_zero List.getElem?_cons_succ List.length_cons List.length_nil List.map_cons List.map_nil ints_length if_true if_false Bool.false_eq_true true_and and_true eq_self ne_eq not_false_eq_true not_true_eq_false beq_self_eq_true Nat.zero_add Nat.add_zero Nat.mul_one Nat.zero_mul Int.toNat_natCast List.toList_toArray List.all_cons List.all_nil AV.one Value.oneCell' Bool.and_true Bool.true_and forall_const true_implies false_implies implies_true Option.map_some Option.map_none Option.isSome_some Option.isSome_none imp_self rdP_flat rdP_row splice_one ints_set ints_get List.append_nil List.cons_append List.nil_append List.getElem?_toArray List.drop_zero ints_drop ints_take List.take_of_length_le splice_all ints_one Option.some.injEq Option.getD_some List.length_replicate zArr List.map_replicate rep_ints splice_intsR List.length_set List.length_append List.flatten_replicate_singleton rep_slice rep_string rep_bool rep_iface List.replicate_zero if_pos if_neg List.mapM_cons List.mapM_nil Option.pure_def Option.bind_eq_bind Option.bind_some Bool.true_eq_false Bool.not_false Bool.not_true get_concat set_concat
open Go.Proofs
open Go.Proofs.Ytajkjhioihdncaa.Ext (B8 blockP shortP)
set_option linter.unusedVariables false
set_option linter.unusedSimpArgs false
set_option maxRecDepth 100000
set_option maxHeartbeats 2000000
theorem strm_get (s m : List Int) : ∀ k i, i < 64 * k → (strm s m k).getD i 0 = (blockP s (leN 8 ((i / 64 : Nat) : Int) ++ m)).getD (i % 64) 0
  | 0, i, h => absurd h (by omega)
  | k + 1, i, h => by
    have hl := strm_len s m k
    rw [strm]
    by_cases h1 : i < 64 * k
    · rw [← strm_get s m k i h1, List.getD_eq_getElem?_getD, List.getElem?_append_left (by omega), ← List.getD_eq_getElem?_getD]
    · rw [List.getD_eq_getElem?_getD, List.getElem?_append_right (by omega), ← List.getD_eq_getElem?_getD, hl, show i / 64 = k from by omega, show i % 64 = i - 64 * k from by omega]
theorem strmP_get (key nonce : List Int) (n i : Nat) (h : i < n) : (strmP key nonce n).getD i 0 = (blockP (shortP key (nonce.take 16)) (leN 8 ((i / 64 : Nat) : Int) ++ nonce.drop 16)).getD (i % 64) 0 := by
  unfold strmP
  rw [List.getD_eq_getElem?_getD, List.getElem?_take, if_pos h, ← List.getD_eq_getElem?_getD, strm_get _ _ _ _ (by omega)]
theorem zip_step (T S : List Int) (k : Nat) (h : S.length = T.length) (hk : k < T.length) : (List.zipWith xor8 T S).take (k + 1) = (List.zipWith xor8 T S).take k ++ [xor8 (T.getD k 0) (S.getD k 0)] := by
  rw [List.take_succ_eq_append_getElem (by simp; omega)]
  simp [List.getD_eq_getElem?_getD, hk, h]
theorem refTurn_p (key nonce : List Int) (c1 c2 c3 : Option Nat) (hk : key.length = 32) (hn : nonce.length = 24) (bk : B8 key) (bn : B8 nonce) (T : List Int) (h1 : T.length ≤ 1000000) :
    PCall Try.prog glob 15 [.vsl 32 (ints .u8 key) c1, .vsl 24 (ints .u8 nonce) c2, .vsl T.length (ints .u8 T) c3] (.vsl T.length (ints .u8 (turnP key nonce T)) none) := by
  refine PCall.of ctx.nr (by (repeat (refine List.forall_mem_cons.2 (And.intro (by first | exact NR.v _ | exact NR.agg (NR.ints _ _) | exact NR.vsl (NR.ints _ _) | exact NR.vptr (NR.ints _ _) | assumption) ?_))); exact fun _ h => absurd h List.not_mem_nil) (NR.vsl (NR.ints _ _)) ?_
  refine lcall15 (by simp) 0 (Nat.le_refl _) ?_
  unfold lc15
  simp only [List.length_cons, List.length_nil, Nat.reduceAdd, Nat.reduceSub, List.replicate_succ, List.replicate_zero, List.cons_append, List.nil_append]
  have ht : (nonce.take 16).length = 16 := by simp [hn]
  have hd : (nonce.drop 16).length = 8 := by simp [hn]
  have hsp := fun c => refShort_p key (nonce.take 16) c1 c hk ht bk (B8.take bn 16)
  have hsl := short_len key (nonce.take 16)
  have hsb := short_B8 key (nonce.take 16) bk (B8.take bn 16)
  have hget := strmP_get key nonce T.length
  have hSl := strmP_len key nonce T.length
  unfold turnP
  obtain ⟨S, hS⟩ : ∃ S, strmP key nonce T.length = S := ⟨_, rfl⟩
  obtain ⟨s, hs0⟩ : ∃ s, shortP key (nonce.take 16) = s := ⟨_, rfl⟩
  obtain ⟨m, hm0⟩ : ∃ m, nonce.drop 16 = m := ⟨_, rfl⟩
  rw [hS] at hget hSl ⊢
  rw [hs0] at hsp hsl hsb hget
  rw [hm0] at hd hget
  have bm : B8 m := hm0 ▸ B8.drop bn 16
  repeat (first
    | (with_reducible refine lops_step fun K hK => ?_; simp (disch := first | omega | (simp only [go_sem, isRow, isFlat, Option.isSome_some]; done) | assumption | (simp only [ints_length, List.length_replicate, List.length_set, List.length_append, List.length_take, List.length_drop, List.length_cons, List.length_nil] <;> omega) | fail) only [go_sem, Nat.reduceAdd, Nat.reduceSub, reduceIte, Nat.reduceEqDiff, Int.reduceToNat, hn, Nat.sub_zero]; (repeat (with_reducible refine And.intro (by first | omega | rfl | assumption | decide) ?_)); (first | (refine hK _ _ ?_) | (refine ⟨_, rfl, hK _ _ ?_⟩) | (refine Or.inl (hK _ _ ?_)) | (refine ⟨_, _, (hsp _).go _, (by first | exact ⟨[], (List.append_nil _).symm⟩ | exact ⟨_, rfl⟩), hK _ _ ?_⟩) | (refine ⟨_, _, (hsp _).go _, hK _ _ ?_⟩) | (refine ⟨_, _, ((hsp _).go _).weakQ, hK _ _ ?_⟩)); clear hK K)
    | (with_reducible refine lops_nil ?_)
    | (with_reducible refine lavc_reg ?_)
    | (with_reducible refine lavc_seq ?_)
    | (with_reducible refine lavc_block ?_)
    | (with_reducible refine lavc_skip ?_)
    | (with_reducible refine lavc_exit ?_)
    | (with_reducible refine lavc_ret ?_)
    | (simp only [↓reduceIte, Nat.reduceEqDiff, reduceCtorEq]))
  refine lavc_loopG [(8, 1, 5)] ms15_0 (fun n (x : Nat × AV × Nat) => n + x.1 = T.length ∧ (x.1 % 64 ≠ 0 → x.2.1 = .vsl 64 (ints .u8 (blockP s (leN 8 ((x.1 / 64 : Nat) : Int) ++ m))) none))
    (fun x => [(8, .sl 0 x.2.2 0 x.1 x.1 1 false), (9, x.2.1), (17, .v (.int .i64 x.1))]) (fun x => [⟨ints .u8 ((List.zipWith xor8 T S).take x.1), x.2.2, true, 5⟩]) T.length (0, .v (.slice none 0 0), 0) ⟨rfl, fun h => absurd rfl h⟩ ?_ ?_
  · refine ⟨⟨rfl, by simp⟩, ?_, rfl⟩
    simp only [ms15_0, putAll, blank, List.foldl_cons, List.foldl_nil, List.set_cons_succ, List.set_cons_zero, List.cons_append, List.nil_append, ALe, true_or, or_true, and_true, true_and, eq_self, reduceCtorEq, false_or]
    exact ⟨rfl, rfl⟩
  rintro n ⟨k, xv, v⟩ ⟨hk1, hxv⟩
  simp only at hk1 hxv
  simp only [ms15_0, putAll, blank, List.foldl_cons, List.foldl_nil, List.set_cons_succ, List.set_cons_zero, List.cons_append, List.nil_append]
  have hzl : ((List.zipWith xor8 T S).take k).length = k := by simp [hSl]; omega
  repeat (first
    | (with_reducible refine lops_step fun K hK => ?_; simp (disch := first | omega | (simp only [go_sem, isRow, isFlat, Option.isSome_some]; done) | assumption | (simp only [ints_length, List.length_replicate, List.length_set, List.length_append, List.length_take, List.length_drop, List.length_cons, List.length_nil] <;> omega) | fail) only [go_sem, Nat.reduceAdd, Nat.reduceSub, reduceIte, Nat.reduceEqDiff, Int.reduceToNat]; (repeat (with_reducible refine And.intro (by first | omega | rfl | assumption | decide) ?_)); (first | (refine hK _ _ ?_) | (refine ⟨_, rfl, hK _ _ ?_⟩) | (refine Or.inl (hK _ _ ?_))); clear hK K)
    | (with_reducible refine lops_nil ?_)
    | (with_reducible refine lavc_reg ?_)
    | (with_reducible refine lavc_seq ?_)
    | (with_reducible refine lavc_block ?_)
    | (with_reducible refine lavc_skip ?_)
    | (with_reducible refine lavc_exit ?_)
    | (with_reducible refine lavc_ret ?_)
    | (simp only [↓reduceIte, Nat.reduceEqDiff, reduceCtorEq]))
  refine lavc_cond rfl (fun hc => ?_) (fun hc => ?_) <;> try simp only [decide_eq_true_eq, decide_eq_false_iff_not, Int.not_lt, Int.not_le, beq_iff_eq, bne_iff_ne, bne_eq_false_iff_eq, beq_eq_false_iff_ne, ne_eq, Bool.not_eq_true', Bool.not_eq_false'] at hc
  · have e1 : (k : Int).tmod 64 = ((k % 64 : Nat) : Int) := tmodN k 64
    have e2 := i64n ((k : Int).tdiv 64) (k / 64) (tdivN k 64) (by omega)
    have e3 := i64n ((k : Int) + 1) (k + 1) (by omega) (by omega)
    have hb := fun c => refBlock_p s m none c (k / 64) hsl hd hsb bm (by omega)
    have hbl := block_len s (leN 8 ((k / 64 : Nat) : Int) ++ m)
    have hg := hget k (by omega)
    have hx : ∀ a b : Int, ibits .xor .u8 a b = xor8 a b := fun _ _ => rfl
    have hst := zip_step T S k hSl (by omega)
    have hme : k % 64 < 64 := Nat.mod_lt _ (by decide)
    obtain ⟨B, hB⟩ : ∃ B, blockP s (leN 8 ((k / 64 : Nat) : Int) ++ m) = B := ⟨_, rfl⟩
    rw [hB] at hb hbl hg hxv
    have fin : ∀ xv' : AV, xv' = .vsl 64 (ints .u8 B) none → ((k + 1) % 64 ≠ 0 → xv' = .vsl 64 (ints .u8 (blockP s (leN 8 (((k + 1) / 64 : Nat) : Int) ++ m))) none) := fun xv' h h2 => by
      rw [h, show (k + 1) / 64 = k / 64 from by omega, hB]
    repeat (first
      | (with_reducible refine lops_step fun K hK => ?_; simp (disch := first | omega | (simp only [go_sem, isRow, isFlat, Option.isSome_some]; done) | assumption | (simp only [ints_length, List.length_replicate, List.length_set, List.length_append, List.length_take, List.length_drop, List.length_cons, List.length_nil] <;> omega) | fail) only [go_sem, Nat.reduceAdd, Nat.reduceSub, reduceIte, Nat.reduceEqDiff, Int.reduceToNat, e1]; (repeat (with_reducible refine And.intro (by first | omega | rfl | assumption | decide) ?_)); (first | (refine hK _ _ ?_) | (refine ⟨_, rfl, hK _ _ ?_⟩) | (refine Or.inl (hK _ _ ?_))); clear hK K)
      | (with_reducible refine lops_nil ?_)
      | (with_reducible refine lavc_reg ?_)
      | (with_reducible refine lavc_seq ?_)
      | (with_reducible refine lavc_block ?_)
      | (with_reducible refine lavc_skip ?_)
      | (with_reducible refine lavc_exit ?_)
      | (with_reducible refine lavc_ret ?_)
      | (simp only [↓reduceIte, Nat.reduceEqDiff, reduceCtorEq]))
    refine lavc_cond rfl (fun hc => ?_) (fun hc => ?_) <;> try simp only [decide_eq_true_eq, decide_eq_false_iff_not, Int.not_lt, Int.not_le, beq_iff_eq, bne_iff_ne, bne_eq_false_iff_eq, beq_eq_false_iff_ne, ne_eq, Bool.not_eq_true', Bool.not_eq_false'] at hc
    · repeat (first
        | (with_reducible refine lops_step fun K hK => ?_; simp (disch := first | omega | (simp only [go_sem, isRow, isFlat, Option.isSome_some]; done) | assumption | (simp only [ints_length, List.length_replicate, List.length_set, List.length_append, List.length_take, List.length_drop, List.length_cons, List.length_nil] <;> omega) | fail) only [go_sem, Nat.reduceAdd, Nat.reduceSub, reduceIte, Nat.reduceEqDiff, Int.reduceToNat, e1, e2, e3, hn, hm0, hd, hbl, hx, ints_append]; (repeat (with_reducible refine And.intro (by first | omega | rfl | assumption | decide) ?_)); (first | (refine hK _ _ ?_) | (refine ⟨_, rfl, hK _ _ ?_⟩) | (refine Or.inl (hK _ _ ?_)) | (refine ⟨_, _, (hb _).go _, (by first | exact ⟨[], (List.append_nil _).symm⟩ | exact ⟨_, rfl⟩), hK _ _ ?_⟩) | (refine ⟨_, _, (hb _).go _, hK _ _ ?_⟩) | (refine ⟨_, _, ((hb _).go _).weakQ, hK _ _ ?_⟩)); clear hK K)
        | (with_reducible refine lops_nil ?_)
        | (with_reducible refine lavc_reg ?_)
        | (with_reducible refine lavc_seq ?_)
        | (with_reducible refine lavc_block ?_)
        | (with_reducible refine lavc_skip ?_)
        | (with_reducible refine lavc_exit ?_)
        | (with_reducible refine lavc_ret ?_)
        | (simp only [↓reduceIte, Nat.reduceEqDiff, reduceCtorEq]))
      refine ⟨n - 1, (k + 1, .vsl 64 (ints .u8 B) none, v + 1), by omega, ⟨by simp only; omega, fin _ rfl⟩, ?_, ?_⟩
      · simp only [ms15_0, putAll, blank, List.foldl_cons, List.foldl_nil, List.set_cons_succ, List.set_cons_zero, List.cons_append, List.nil_append, ALe, true_or, or_true, and_true, true_and, eq_self, reduceCtorEq, false_or]
      · rw [hst, hg]
        rfl
    · obtain rfl := hxv (by omega)
      repeat (first
        | (with_reducible refine lops_step fun K hK => ?_; simp (disch := first | omega | (simp only [go_sem, isRow, isFlat, Option.isSome_some]; done) | assumption | (simp only [ints_length, List.length_replicate, List.length_set, List.length_append, List.length_take, List.length_drop, List.length_cons, List.length_nil] <;> omega) | fail) only [go_sem, Nat.reduceAdd, Nat.reduceSub, reduceIte, Nat.reduceEqDiff, Int.reduceToNat, e1, e2, e3, hbl, hx, ints_append]; (repeat (with_reducible refine And.intro (by first | omega | rfl | assumption | decide) ?_)); (first | (refine hK _ _ ?_) | (refine ⟨_, rfl, hK _ _ ?_⟩) | (refine Or.inl (hK _ _ ?_))); clear hK K)
        | (with_reducible refine lops_nil ?_)
        | (with_reducible refine lavc_reg ?_)
        | (with_reducible refine lavc_seq ?_)
        | (with_reducible refine lavc_block ?_)
        | (with_reducible refine lavc_skip ?_)
        | (with_reducible refine lavc_exit ?_)
        | (with_reducible refine lavc_ret ?_)
        | (simp only [↓reduceIte, Nat.reduceEqDiff, reduceCtorEq]))
      refine ⟨n - 1, (k + 1, .vsl 64 (ints .u8 B) none, v + 1), by omega, ⟨by simp only; omega, fin _ rfl⟩, ?_, ?_⟩
      · simp only [ms15_0, putAll, blank, List.foldl_cons, List.foldl_nil, List.set_cons_succ, List.set_cons_zero, List.cons_append, List.nil_append, ALe, true_or, or_true, and_true, true_and, eq_self, reduceCtorEq, false_or]
      · rw [hst, hg]
        rfl
  · obtain rfl : k = T.length := by omega
    have hall : (List.zipWith xor8 T S).take T.length = List.zipWith xor8 T S := List.take_of_length_le (by simp [hSl])
    rw [hall] at hzl ⊢
    repeat (first
      | (with_reducible refine lops_step fun K hK => ?_; simp (disch := first | omega | (simp only [go_sem, isRow, isFlat, Option.isSome_some]; done) | assumption | (simp only [ints_length, List.length_replicate, List.length_set, List.length_append, List.length_take, List.length_drop, List.length_cons, List.length_nil] <;> omega) | fail) only [go_sem, Nat.reduceAdd, Nat.reduceSub, reduceIte, Nat.reduceEqDiff, Int.reduceToNat]; (repeat (with_reducible refine And.intro (by first | omega | rfl | assumption | decide) ?_)); (first | (refine hK _ _ ?_) | (refine ⟨_, rfl, hK _ _ ?_⟩) | (refine Or.inl (hK _ _ ?_))); clear hK K)
      | (with_reducible refine lops_nil ?_)
      | (with_reducible refine lavc_reg ?_)
      | (with_reducible refine lavc_seq ?_)
      | (with_reducible refine lavc_block ?_)
      | (with_reducible refine lavc_skip ?_)
      | (with_reducible refine lavc_exit ?_)
      | (with_reducible refine lavc_ret ?_)
      | (simp only [↓reduceIte, Nat.reduceEqDiff, reduceCtorEq]))
    refine And.intro (by simp) ?_
    simp (disch := first | omega | (simp only [go_sem, isRow, isFlat, Option.isSome_some]; done) | assumption | (simp only [ints_length, List.length_replicate, List.length_set, List.length_append, List.length_take, List.length_drop, List.length_cons, List.length_nil] <;> omega) | fail) only [go_sem, Nat.reduceAdd, Nat.reduceSub, reduceIte, Nat.reduceEqDiff, Int.reduceToNat, aret, aretL, aret1, aenv]
    (repeat (with_reducible refine And.intro (by first | omega | rfl | assumption | decide) ?_))
    exact endI rfl hzl (Nat.le_refl _)
end Go.Abs.S
