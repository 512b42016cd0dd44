/- chacha's statements: streams. -/
import Derived.Test.YtajkjhioihdncaaChaL
import Derived.Test.YtajkjhioihdncaaChaI
namespace Go.Abs.S
attribute [local go_sem] lguard aopO aop nxL aenv toAV tput aLoad aStore vcells aBin aUn aAlloc aBox aBuild aBSlice afill aConv isIntT aappZ aCap aArr aMM aMake aSlice bnd3 bnd aFldAddr aFld aIdxAddr aIdx aExt aLen aCopy aapp aappQ agh acont List.getD_cons_zero List.getD_cons_succ List.set_cons_zero List.set_cons_succ List.getElem?_cons_zero List.getElem?_cons_succ List.length_cons List.length_nil List.map_cons List.map_nil ints_length if_true if_false Bool.false_eq_true true_and and_true eq_self ne_eq not_false_eq_true not_true_eq_false beq_self_eq_true Nat.zero_add Nat.add_zero Nat.mul_one Nat.zero_mul Int.toNat_natCast List.toList_toArray List.all_cons List.all_nil AV.one Value.oneCell' Bool.and_true Bool.true_and forall_const true_implies false_implies implies_true Option.map_some Option.map_none Option.isSome_some Option.isSome_none imp_self rdP_flat rdP_row splice_one ints_set ints_get List.append_nil List.cons_append List.nil_append List.getElem?_toArray List.drop_zero ints_drop ints_take List.take_of_length_le splice_all ints_one Option.some.injEq Option.getD_some List.length_replicate zArr List.map_replicate rep_ints splice_intsR List.length_set List.length_append List.flatten_replicate_singleton rep_slice rep_string rep_bool rep_iface List.replicate_zero if_pos if_neg List.mapM_cons List.mapM_nil Option.pure_def Option.bind_eq_bind Option.bind_some Bool.true_eq_false Bool.not_false Bool.not_true get_concat set_concat
open Go.Proofs
open Go.Proofs.Ytajkjhioihdncaa.Ext (B8 blockP shortP)
set_option linter.unusedVariables false
set_option linter.unusedSimpArgs false
set_option maxRecDepth 100000
set_option maxHeartbeats 2000000
theorem strmP_pre (key nonce : List Int) (n m : Nat) : (strmP key nonce (n + m)).take n = strmP key nonce n := by
  have h := strmP_of key nonce n ((n + m) / 64 + 1) (by omega)
  rw [← h]
  unfold strmP
  rw [List.take_take, Nat.min_eq_left (by omega)]
theorem B8.strm {s m : List Int} (hs : B8 s) (hm : B8 m) : ∀ k, B8 (strm s m k)
  | 0 => fun x hx => absurd hx List.not_mem_nil
  | k + 1 => (B8.strm hs hm k).append (Ytajkjhioihdncaa.Ext.B8.bytesOf (Ytajkjhioihdncaa.Ext.W32.addAll _ _))
theorem B8.strmP {key nonce : List Int} (hk : B8 key) (hn : B8 nonce) (n : Nat) : B8 (strmP key nonce n) :=
  B8.take (B8.strm (short_B8 _ _ hk (B8.take hn 16)) (B8.drop hn 16) _) n
theorem xor8_zero (x : Int) (h0 : 0 ≤ x) (h1 : x ≤ 255) : xor8 0 x = x := by
  unfold xor8
  rw [ibits_xor, u8_xor 0 x (by omega) (by omega) h0 (by omega)]
  simp
  omega
theorem turnP_zero (key nonce : List Int) (hk : B8 key) (hn : B8 nonce) (n : Nat) : turnP key nonce (List.replicate n 0) = strmP key nonce n := by
  unfold turnP
  rw [List.length_replicate]
  have hl := strmP_len key nonce n
  have hb := B8.strmP hk hn n
  generalize Go.Abs.S.strmP key nonce n = s at *
  subst hl
  apply List.ext_getElem
  · simp
  · intro j h1 h2
    simp only [List.getElem_zipWith, List.getElem_replicate]
    have := hb s[j] (List.getElem_mem h2)
    exact xor8_zero _ this.1 this.2
theorem streams_p (key nonce : List Int) (n m : Nat) (hk : key.length = 32) (hn : nonce.length = 24) (bk : B8 key) (bn : B8 nonce) (hnn : n ≤ 255) (hm : m ≤ 255) :
    PCall Try.prog glob 6 [.agg (ints .u8 key), .agg (ints .u8 nonce), .agg (ints .u8 [(n : Int), (m : Int)])] (.v (.bool true)) := by
  refine PCall.of ctx.nr (by (repeat (refine List.forall_mem_cons.2 (And.intro (by first | exact NR.v _ | exact NR.agg (NR.ints _ _) | exact NR.vsl (NR.ints _ _) | exact NR.vptr (NR.ints _ _) | assumption) ?_))); exact fun _ h => absurd h List.not_mem_nil) (NR.v _) ?_
  refine lcall6 (by simp) 0 (Nat.le_refl _) ?_
  unfold lc6
  simp only [List.length_cons, List.length_nil, Nat.reduceAdd, Nat.reduceSub, List.replicate_succ, List.replicate_zero, List.cons_append, List.nil_append]
  have ha := awake_p
  have t0 : ([(n : Int), (m : Int)] : List Int).getD 0 0 = (n : Int) := rfl
  have t1 : ([(n : Int), (m : Int)] : List Int).getD 1 0 = (m : Int) := rfl
  have t2 := i64n (n : Int) n rfl (by omega)
  have t3 := i64n (m : Int) m rfl (by omega)
  have t4 := i64n ((n : Int) + (m : Int)) (n + m) (by omega) (by omega)
  have s1 := Stream_p key nonce (some 32) (some 24) n hk hn bk bn (by omega)
  have s2 := Stream_p key nonce (some 32) (some 24) (n + m) hk hn bk bn (by omega)
  have l1 := strmP_len key nonce n
  have l2 := strmP_len key nonce (n + m)
  have hp := strmP_pre key nonce n m
  have hz : PCall Try.prog glob 14 [.vsl 32 (ints .u8 key) (some 32), .vsl 24 (ints .u8 nonce) (some 24), .vsl 1 [.vsl n (ints .u8 (List.replicate n 0)) (some n)] (some 1)] (.tup [.vsl n (ints .u8 (strmP key nonce n)) none, .v (.int .i64 0)]) := by
    have hr : Rws [.vsl n (ints .u8 (List.replicate n 0)) (some n)] [List.replicate n 0] := Rws.cons (by simp) Rws.nil
    rcases Nat.eq_zero_or_pos n with rfl | h0
    · exact Turn_none key nonce (some 32) (some 24) hk hn bk bn _ (some 1) [List.replicate 0 0] hr rfl (by simp)
    · have := Turn_some key nonce (some 32) (some 24) hk hn bk bn _ (some 1) [List.replicate n 0] hr (List.replicate n 0) (by simp) (by simpa using h0) (by simp; omega) (by simp)
      rwa [turnP_zero key nonce bk bn n, List.length_replicate] at this
  obtain ⟨Z1, hZ1⟩ : ∃ Z, strmP key nonce n = Z := ⟨_, rfl⟩
  obtain ⟨Z2, hZ2⟩ : ∃ Z, strmP key nonce (n + m) = Z := ⟨_, rfl⟩
  rw [hZ1] at s1 l1 hp hz
  rw [hZ2] at s2 l2 hp
  have f1 : (List.replicate n [AV.v (Value.int .u8 0)]).flatten = ints .u8 (List.replicate n 0) := by simp [ints]
  repeat (first
    | (with_reducible refine lops_step fun K hK => ?_; simp (disch := first | omega | (simp only [go_sem, isRow, isFlat, Option.isSome_some]; done) | assumption | (simp only [ints_length, List.length_replicate, List.length_set, List.length_append, List.length_take, List.length_drop, List.length_cons, List.length_nil] <;> omega) | fail) only [go_sem, Nat.reduceAdd, Nat.reduceSub, reduceIte, Nat.reduceEqDiff, Int.reduceToNat]; (repeat (with_reducible refine And.intro (by first | omega | rfl | assumption | decide) ?_)); (first | (refine hK _ _ ?_) | (refine ⟨_, rfl, hK _ _ ?_⟩) | (refine Or.inl (hK _ _ ?_)) | (refine ⟨_, _, (ha.go _).weakQ, (by first | exact ⟨[], (List.append_nil _).symm⟩ | exact ⟨_, rfl⟩), hK _ _ ?_⟩) | (refine ⟨_, _, (ha.go _).weakQ, hK _ _ ?_⟩) | (refine ⟨_, _, ((ha.go _).weakQ).weakQ, hK _ _ ?_⟩)); clear hK K)
    | (with_reducible refine lops_nil ?_)
    | (with_reducible refine lavc_reg ?_)
    | (with_reducible refine lavc_seq ?_)
    | (with_reducible refine lavc_block ?_)
    | (with_reducible refine lavc_skip ?_)
    | (with_reducible refine lavc_exit ?_)
    | (with_reducible refine lavc_ret ?_)
    | (simp only [↓reduceIte, Nat.reduceEqDiff, reduceCtorEq]))
  refine lavc_cond rfl (fun hc => ?_) (fun hc => ?_) <;> try simp only [decide_eq_true_eq, decide_eq_false_iff_not, Int.not_lt, Int.not_le, beq_iff_eq, bne_iff_ne, bne_eq_false_iff_eq, beq_eq_false_iff_ne, ne_eq, Bool.not_eq_true', Bool.not_eq_false'] at hc
  · cases hc
  · refine lavc_seq (lavc_reg ?_)
    repeat (first
      | (with_reducible refine lops_step fun K hK => ?_; simp (disch := first | omega | (simp only [go_sem, isRow, isFlat, Option.isSome_some]; done) | assumption | (simp only [ints_length, List.length_replicate, List.length_set, List.length_append, List.length_take, List.length_drop, List.length_cons, List.length_nil] <;> omega) | fail) only [go_sem, Nat.reduceAdd, Nat.reduceSub, reduceIte, Nat.reduceEqDiff, Int.reduceToNat, t0, t1, t2, t3, t4]; (repeat (with_reducible refine And.intro (by first | omega | rfl | assumption | decide) ?_)); (first | (refine hK _ _ ?_) | (refine ⟨_, rfl, hK _ _ ?_⟩) | (refine Or.inl (hK _ _ ?_))); clear hK K)
      | (with_reducible refine lops_nil ?_)
      | (with_reducible refine lavc_seq ?_)
      | (with_reducible refine lavc_block ?_)
      | (with_reducible refine lavc_skip ?_)
      | (with_reducible refine lavc_exit ?_)
      | (with_reducible refine lavc_ret ?_)
      | (simp only [↓reduceIte, Nat.reduceEqDiff, reduceCtorEq]))
    refine lavc_reg_fz [0, 1, 2] ?_
    simp (disch := first | omega | (simp only [go_sem, isRow, isFlat, Option.isSome_some]; done) | assumption | (simp only [ints_length, List.length_replicate, List.length_set, List.length_append, List.length_take, List.length_drop, List.length_cons, List.length_nil] <;> omega) | fail) only [afz, fzV, fzS, fz_ints, List.map_cons, List.map_nil, List.getElem?_cons_zero, List.getElem?_cons_succ, List.set_cons_zero, List.set_cons_succ, ints_length, true_and, and_true, and_self, if_true, if_false, ↓reduceIte, Nat.reduceEqDiff, Nat.reduceLeDiff, Nat.reduceMul, Nat.reduceAdd, Nat.zero_add, Nat.mul_one, Nat.le_refl, List.length_replicate, List.drop_zero, ints_drop, ints_take, List.take_of_length_le, false_and, and_false, reduceCtorEq, Bool.false_eq_true, forall_const, if_pos, hk, hn]
    (repeat (with_reducible refine And.intro (by first | omega | rfl | assumption | decide) ?_))
    repeat (first
      | (with_reducible refine lops_step fun K hK => ?_; simp (disch := first | omega | (simp only [go_sem, isRow, isFlat, Option.isSome_some]; done) | assumption | (simp only [ints_length, List.length_replicate, List.length_set, List.length_append, List.length_take, List.length_drop, List.length_cons, List.length_nil] <;> omega) | fail) only [go_sem, Nat.reduceAdd, Nat.reduceSub, reduceIte, Nat.reduceEqDiff, Int.reduceToNat, hk, hn, t0, t1, t2, t3, t4]; (repeat (with_reducible refine And.intro (by first | omega | rfl | assumption | decide) ?_)); (first | (refine hK _ _ ?_) | (refine ⟨_, rfl, hK _ _ ?_⟩) | (refine Or.inl (hK _ _ ?_)) | (refine ⟨_, _, s1.go _, (by first | exact ⟨[], (List.append_nil _).symm⟩ | exact ⟨_, rfl⟩), hK _ _ ?_⟩) | (refine ⟨_, _, s1.go _, hK _ _ ?_⟩) | (refine ⟨_, _, (s1.go _).weakQ, hK _ _ ?_⟩)); clear hK K)
      | (with_reducible refine lops_nil ?_)
      | (with_reducible refine lavc_seq ?_)
      | (with_reducible refine lavc_block ?_)
      | (with_reducible refine lavc_skip ?_)
      | (with_reducible refine lavc_exit ?_)
      | (with_reducible refine lavc_ret ?_)
      | (simp only [↓reduceIte, Nat.reduceEqDiff, reduceCtorEq]))
    refine lavc_reg ?_
    repeat (first
      | (with_reducible refine lops_step fun K hK => ?_; simp (disch := first | omega | (simp only [go_sem, isRow, isFlat, Option.isSome_some]; done) | assumption | (simp only [ints_length, List.length_replicate, List.length_set, List.length_append, List.length_take, List.length_drop, List.length_cons, List.length_nil] <;> omega) | fail) only [go_sem, Nat.reduceAdd, Nat.reduceSub, reduceIte, Nat.reduceEqDiff, Int.reduceToNat, hk, hn, t0, t1, t2, t3, t4]; (repeat (with_reducible refine And.intro (by first | omega | rfl | assumption | decide) ?_)); (first | (refine hK _ _ ?_) | (refine ⟨_, rfl, hK _ _ ?_⟩) | (refine Or.inl (hK _ _ ?_)) | (refine ⟨_, _, s2.go _, (by first | exact ⟨[], (List.append_nil _).symm⟩ | exact ⟨_, rfl⟩), hK _ _ ?_⟩) | (refine ⟨_, _, s2.go _, hK _ _ ?_⟩) | (refine ⟨_, _, (s2.go _).weakQ, hK _ _ ?_⟩)); clear hK K)
      | (with_reducible refine lops_nil ?_)
      | (with_reducible refine lavc_seq ?_)
      | (with_reducible refine lavc_block ?_)
      | (with_reducible refine lavc_skip ?_)
      | (with_reducible refine lavc_exit ?_)
      | (with_reducible refine lavc_ret ?_)
      | (simp only [↓reduceIte, Nat.reduceEqDiff, reduceCtorEq]))
    refine lavc_reg ?_
    repeat (first
      | (with_reducible refine lops_step fun K hK => ?_; simp (disch := first | omega | (simp only [go_sem, isRow, isFlat, Option.isSome_some]; done) | assumption | (simp only [ints_length, List.length_replicate, List.length_set, List.length_append, List.length_take, List.length_drop, List.length_cons, List.length_nil] <;> omega) | fail) only [go_sem, Nat.reduceAdd, Nat.reduceSub, reduceIte, Nat.reduceEqDiff, Int.reduceToNat, hk, hn, t0, t1, t2, t3, t4, f1, l1, l2, hp, Nat.sub_zero, Value.cells, List.map_cons, List.map_nil]; (repeat (with_reducible refine And.intro (by first | omega | rfl | assumption | decide) ?_)); (first | (refine hK _ _ ?_) | (refine ⟨_, rfl, hK _ _ ?_⟩) | (refine Or.inr (hK _ _ ?_)) | (refine Or.inr ⟨rfl, hK _ _ ?_⟩) | (refine ⟨_, _, hz.go _, (by first | exact ⟨[], (List.append_nil _).symm⟩ | exact ⟨_, rfl⟩), hK _ _ ?_⟩) | (refine ⟨_, _, hz.go _, hK _ _ ?_⟩) | (refine ⟨_, _, (hz.go _).weakQ, hK _ _ ?_⟩)); clear hK K)
      | (with_reducible refine lops_nil ?_)
      | (with_reducible refine lavc_reg ?_)
      | (with_reducible refine lavc_seq ?_)
      | (with_reducible refine lavc_block ?_)
      | (with_reducible refine lavc_skip ?_)
      | (with_reducible refine lavc_exit ?_)
      | (with_reducible refine lavc_ret ?_)
      | (simp only [↓reduceIte, Nat.reduceEqDiff, reduceCtorEq]))
    refine And.intro (by simp) ?_
    simp (disch := first | omega | (simp only [go_sem, isRow, isFlat, Option.isSome_some]; done) | assumption | (simp only [ints_length, List.length_replicate, List.length_set, List.length_append, List.length_take, List.length_drop, List.length_cons, List.length_nil] <;> omega) | fail) only [go_sem, Nat.reduceAdd, Nat.reduceSub, reduceIte, Nat.reduceEqDiff, Int.reduceToNat, aret, aretL, aret1, aenv]
    (repeat (with_reducible refine And.intro (by first | omega | rfl | assumption | decide) ?_))
    exact end0 (NR.v _) rfl
end Go.Abs.S
