/- page.Of: a round. page.Of. page.Of, all of it. -/
import Derived.Test.YtgmchiadphdlhaaDoorCodF
import Derived.Test.YtgmchiadphdlhaaDoorCodC
import Derived.Test.YtgmchiadphdlhaaDoorAbsJoin
import Derived.Test.YtgmchiadphdlhaaDoorChk
namespace Go.Abs.S
attribute [local go_sem] lguard aopO aop nxL aenv toAV tput aLoad aStore vcells aBin aNilI aUn aAlloc aBox aBuild aBSlice afill aConv isIntT aappZ aCap aArr aMM aMake aSlice bnd3 bnd aFldAddr aFld aIdxAddr aIdx aExt aLen aCopy aEq0 bAV aUb aapp aappQ agh acont List.getD_cons_zero List.getD_cons_succ List.set_cons_zero List.set_cons_succ List.getElem?_cons_zero List.getElem?_cons_succ List.length_cons List.length_nil List.map_cons List.map_nil ints_length if_true if_false Bool.false_eq_true true_and and_true eq_self ne_eq not_false_eq_true not_true_eq_false beq_self_eq_true Nat.zero_add Nat.add_zero Nat.mul_one Nat.zero_mul Int.toNat_natCast List.toList_toArray List.all_cons List.all_nil AV.one Value.oneCell' Bool.and_true Bool.true_and forall_const true_implies false_implies implies_true Option.map_some Option.map_none Option.isSome_some Option.isSome_none imp_self rdP_flat rdP_row splice_one ints_set ints_get List.append_nil List.cons_append List.nil_append List.getElem?_toArray List.drop_zero ints_drop ints_take List.take_of_length_le splice_all ints_one Option.some.injEq Option.getD_some List.length_replicate zArr List.map_replicate rep_ints splice_intsR List.length_set List.length_append List.flatten_replicate_singleton rep_slice rep_string rep_bool rep_iface List.replicate_zero if_pos if_neg List.mapM_cons List.mapM_nil Option.pure_def Option.bind_eq_bind Option.bind_some Bool.true_eq_false Bool.not_false Bool.not_true get_concat set_concat
open Go.Proofs
set_option linter.unusedVariables false
set_option linter.unusedSimpArgs false
set_option maxRecDepth 100000
set_option maxHeartbeats 4000000
abbrev stA (s : ByteArray) : AV := .v (.string s)
abbrev nlA : AV := .v (.slice none 0 0)
abbrev ivC (n : Int) : AV := .v (.int .i64 n)
/-- Texts' cells; values that are texts. -/
def strs (N : List ByteArray) : List AV := N.map stA
def valT (s : ByteArray) : List AV := [ivC 4, stA s, nlA, nlA]
def vals (X : List ByteArray) : List AV := X.flatMap valT
theorem strs_length (N : List ByteArray) : (strs N).length = N.length := by simp [strs]
theorem vals_length (X : List ByteArray) : (vals X).length = X.length * 4 := by
  induction X with
  | nil => rfl
  | cons a X ih =>
    have : vals (a :: X) = valT a ++ vals X := rfl
    rw [this, List.length_append, ih]
    simp [valT]
    omega
abbrev zeroV : Blk := ⟨[ivC 0, stA ⟨#[]⟩, nlA, nlA], 0, true, 26⟩
/-- Memory while a page is made. -/
def HP (N X : List ByteArray) : AHeap := if N = [] then [zeroV, ⟨[ivC 6, stA ⟨#[]⟩, nlA, nlA], 0, true, 26⟩]
  else [zeroV, ⟨[ivC 6, stA ⟨#[]⟩, .sl 2 (N.length - 1) 0 N.length N.length 1 false, .sl 3 (N.length - 1) 0 N.length N.length 4 false], 0, true, 26⟩, ⟨strs N, N.length - 1, true, 9⟩, ⟨vals X, N.length - 1, true, 26⟩]
def tB (p : AV) : List AV := [.any, .any, .any, .ptr 1 0 0, p] ++ List.replicate 25 .any
theorem round0 (a b : ByteArray) (c : Option Nat) : lavc Tryd.prog glob lcb10 (tB (.vsl 2 (strs [a, b]) c)) (HP [] []) fun e t H => e = .normal ∧ H = HP [a] [b] := by
  unfold tB HP strs
  simp only [List.map_cons, List.map_nil, if_true, List.replicate_succ, List.replicate_zero, List.cons_append, List.nil_append]
  unfold lcb10
  simp only [List.length_cons, List.length_nil, Nat.reduceAdd, Nat.reduceSub, List.replicate_succ, List.replicate_zero, List.cons_append, List.nil_append]
  repeat (first
    | (with_reducible refine lops_step fun K hK => ?_; simp (disch := first | exact dch | fail) only [go_sem, Nat.reduceAdd, Nat.reduceSub, reduceIte, Nat.reduceEqDiff, Int.reduceToNat, Int.reduceBEq, Int.reduceBNe]; (try (first | (refine And.intro (fun _ => ?_) (fun h => absurd h (by decide))) | (refine And.intro (fun h => absurd h (by decide)) (fun _ => ?_)))); (repeat (with_reducible refine And.intro acl ?_)); (first | (refine hK _ _ ?_) | (refine ⟨_, rfl, hK _ _ ?_⟩) | (refine Or.inl (hK _ _ ?_))); clear hK K)
    | (with_reducible refine lops_nil ?_)
    | (with_reducible first | refine lavc_reg ?_ | refine lavc_seq ?_ | refine lavc_block ?_ | refine lavc_skip ?_ | refine lavc_exit ?_ | refine lavc_ret ?_ | refine lavcR_round ?_)
    | (refine lavc_cond rfl (fun _ => ?_) (fun hc => absurd hc (by decide)))
    | (refine lavc_cond rfl (fun hc => absurd hc (by decide)) (fun _ => ?_))
    | (simp only [↓reduceIte, Nat.reduceEqDiff, reduceCtorEq]))
  refine lavc_lateq [.ptr 1 0 3, nlA, .vsl 2 [stA a, stA b] c, .vptr [stA a, stA b] 1, stA b, .agg [ivC 4, stA b, nlA, nlA], .vsl 1 [ivC 4, stA b, nlA, nlA] (some 1), .ptr 1 0 2] ?_ ?_ <;> simp only [lputs, tput, List.set_cons_succ, List.set_cons_zero]
  · (simp only [lfreesAt]; repeat (first | exact trivial | (refine And.intro (by unfold lfreeAt; unfold aopO; simp (disch := first | exact dch | fail) only [go_sem, Nat.reduceAdd, Nat.reduceSub, reduceIte, Nat.reduceEqDiff, Int.reduceToNat, Int.reduceBEq, Int.reduceBNe]; (repeat (with_reducible refine And.intro acl ?_)); first | exact ⟨rfl, fun d h => by cases h; rfl⟩ | exact fun d h => by cases h; rfl | exact Or.inr ⟨rfl, fun d h => by cases h; rfl⟩ | exact Or.inr (fun d h => by cases h; rfl) | exact Or.inl ⟨rfl, fun d h => by cases h; rfl⟩) ?_)))
  · repeat (first
      | (with_reducible refine lops_step fun K hK => ?_; simp (disch := first | exact dch | fail) only [go_sem, Nat.reduceAdd, Nat.reduceSub, reduceIte, Nat.reduceEqDiff, Int.reduceToNat, Int.reduceBEq, Int.reduceBNe]; (repeat (with_reducible refine And.intro acl ?_)); (first | (refine hK _ _ ?_) | (refine ⟨_, rfl, hK _ _ ?_⟩) | (refine Or.inr (hK _ _ ?_)) | (refine Or.inr ⟨rfl, hK _ _ ?_⟩)); clear hK K)
      | (with_reducible refine lops_nil ?_)
      | (with_reducible first | refine lavc_reg ?_ | refine lavc_seq ?_ | refine lavc_block ?_ | refine lavc_skip ?_ | refine lavc_exit ?_ | refine lavc_ret ?_ | refine lavcR_round ?_)
      | (simp only [↓reduceIte, Nat.reduceEqDiff, reduceCtorEq]))
    repeat (first
      | ((with_reducible refine lopsF_step ?_ fun K hK => ?_); (case _ => (simp only [lfreesAt]; repeat (first | exact trivial | (refine And.intro (by unfold lfreeAt; unfold aopO; simp (disch := first | exact dch | fail) only [go_sem, Nat.reduceAdd, Nat.reduceSub, reduceIte, Nat.reduceEqDiff, Int.reduceToNat, Int.reduceBEq, Int.reduceBNe]; (repeat (with_reducible refine And.intro acl ?_)); first | exact ⟨rfl, fun d h => by cases h; rfl⟩ | exact fun d h => by cases h; rfl | exact Or.inr ⟨rfl, fun d h => by cases h; rfl⟩ | exact Or.inr (fun d h => by cases h; rfl) | exact Or.inl ⟨rfl, fun d h => by cases h; rfl⟩) ?_)))); with_reducible skip; simp (disch := first | exact dch | fail) only [go_sem, Nat.reduceAdd, Nat.reduceSub, reduceIte, Nat.reduceEqDiff, Int.reduceToNat, Int.reduceBEq, Int.reduceBNe]; (repeat (with_reducible refine And.intro acl ?_)); (first | (refine hK _ _ ?_) | (refine ⟨_, rfl, hK _ _ ?_⟩) | (refine Or.inr (hK _ _ ?_)) | (refine Or.inr ⟨rfl, hK _ _ ?_⟩)); clear hK K)
      | ((with_reducible refine lopsF_nil ?_ ?_); (case _ => (simp only [lfreesAt]; repeat (first | exact trivial | (refine And.intro (by unfold lfreeAt; unfold aopO; simp (disch := first | exact dch | fail) only [go_sem, Nat.reduceAdd, Nat.reduceSub, reduceIte, Nat.reduceEqDiff, Int.reduceToNat, Int.reduceBEq, Int.reduceBNe]; (repeat (with_reducible refine And.intro acl ?_)); first | exact ⟨rfl, fun d h => by cases h; rfl⟩ | exact fun d h => by cases h; rfl | exact Or.inr ⟨rfl, fun d h => by cases h; rfl⟩ | exact Or.inr (fun d h => by cases h; rfl) | exact Or.inl ⟨rfl, fun d h => by cases h; rfl⟩) ?_)))))
      | (with_reducible first | refine lavc_reg ?_ | refine lavc_seq ?_ | refine lavc_block ?_ | refine lavc_skip ?_ | refine lavc_exit ?_ | refine lavc_ret ?_ | refine lavcR_round ?_)
      | (simp only [↓reduceIte, Nat.reduceEqDiff, reduceCtorEq]))
    repeat (first
      | (with_reducible refine lopsN_step fun K hK => ?_; simp (disch := first | exact dch | fail) only [go_sem, Nat.reduceAdd, Nat.reduceSub, reduceIte, Nat.reduceEqDiff, Int.reduceToNat, Int.reduceBEq, Int.reduceBNe]; (repeat (with_reducible refine And.intro acl ?_)); (first | (refine hK _ _ ?_) | (refine ⟨_, rfl, hK _ _ ?_⟩) | (refine Or.inl (hK _ _ ?_))); clear hK K)
      | (with_reducible refine lopsN_nil ?_)
      | (with_reducible first | refine lavc_reg ?_ | refine lavc_seq ?_ | refine lavc_block ?_ | refine lavc_skip ?_ | refine lavc_exit ?_ | refine lavc_ret ?_ | refine lavcR_round ?_)
      | (simp only [↓reduceIte, Nat.reduceEqDiff, reduceCtorEq]))
    exact ⟨trivial, rfl⟩
theorem strs_snoc (N : List ByteArray) (a : ByteArray) : strs N ++ [stA a] = strs (N ++ [a]) := by simp [strs]
theorem vals_snoc (X : List ByteArray) (b : ByteArray) : vals X ++ [ivC 4, stA b, nlA, nlA] = vals (X ++ [b]) := by simp [vals, valT]
theorem round1 (N X : List ByteArray) (h0 : N ≠ []) (hX : X.length = N.length) (hl : N.length ≤ 1000) (a b : ByteArray) (c : Option Nat) : lavc Tryd.prog glob lcb10 (tB (.vsl 2 (strs [a, b]) c)) (HP N X) fun e t H => e = .normal ∧ H = HP (N ++ [a]) (X ++ [b]) := by
  have h1 : N ++ [a] ≠ [] := by simp
  have h2 : 0 < N.length := List.length_pos_iff.2 h0
  unfold tB HP
  rw [if_neg h0, if_neg h1]
  have ls := strs_length N
  have lv := vals_length X
  have s1 := strs_snoc N a
  have v1 := vals_snoc X b
  have ev : N.length - 1 + 1 = (N ++ [a]).length - 1 := by simp; omega
  have el : N.length + 1 = (N ++ [a]).length := by simp
  obtain ⟨M, hM⟩ : ∃ M, (N ++ [a]).length = M := ⟨_, rfl⟩
  obtain ⟨SN, hSN⟩ : ∃ S, strs N = S := ⟨_, rfl⟩
  obtain ⟨SX, hSX⟩ : ∃ S, vals X = S := ⟨_, rfl⟩
  rw [hM] at ev el ⊢
  rw [hSN] at ls s1 ⊢
  rw [hSX] at lv v1 ⊢
  rw [hX] at lv
  obtain ⟨n, hn⟩ : ∃ n, N.length = n := ⟨_, rfl⟩
  rw [hn] at h2 hl ls lv ev el ⊢
  simp only [strs, List.map_cons, List.map_nil, List.replicate_succ, List.replicate_zero, List.cons_append, List.nil_append]
  unfold lcb10
  repeat (first
    | (with_reducible refine lops_step fun K hK => ?_; simp (disch := first | exact dch | fail) only [go_sem, Nat.reduceAdd, Nat.reduceSub, reduceIte, Nat.reduceEqDiff, Int.reduceToNat, Int.reduceBEq, Int.reduceBNe]; (try (first | (refine And.intro (fun _ => ?_) (fun h => absurd h (by decide))) | (refine And.intro (fun h => absurd h (by decide)) (fun _ => ?_)))); (repeat (with_reducible refine And.intro acl ?_)); (first | (refine hK _ _ ?_) | (refine ⟨_, rfl, hK _ _ ?_⟩) | (refine Or.inl (hK _ _ ?_))); clear hK K)
    | (with_reducible refine lops_nil ?_)
    | (with_reducible first | refine lavc_reg ?_ | refine lavc_seq ?_ | refine lavc_block ?_ | refine lavc_skip ?_ | refine lavc_exit ?_ | refine lavc_ret ?_ | refine lavcR_round ?_)
    | (refine lavc_cond rfl (fun _ => ?_) (fun hc => absurd hc (by decide)))
    | (refine lavc_cond rfl (fun hc => absurd hc (by decide)) (fun _ => ?_))
    | (simp only [↓reduceIte, Nat.reduceEqDiff, reduceCtorEq]))
  refine lavc_lateq [.ptr 1 0 3, .sl 3 (n - 1) 0 n n 4 false, .vsl 2 [stA a, stA b] c, .vptr [stA a, stA b] 1, stA b, .agg [ivC 4, stA b, nlA, nlA], .vsl 1 [ivC 4, stA b, nlA, nlA] (some 1), .ptr 1 0 2] ?_ ?_ <;> simp only [lputs, tput, List.set_cons_succ, List.set_cons_zero]
  · (simp only [lfreesAt]; repeat (first | exact trivial | (refine And.intro (by unfold lfreeAt; unfold aopO; simp (disch := first | exact dch | fail) only [go_sem, Nat.reduceAdd, Nat.reduceSub, reduceIte, Nat.reduceEqDiff, Int.reduceToNat, Int.reduceBEq, Int.reduceBNe, ls, lv]; (repeat (with_reducible refine And.intro acl ?_)); first | exact ⟨rfl, fun d h => by cases h; rfl⟩ | exact fun d h => by cases h; rfl | exact Or.inr ⟨rfl, fun d h => by cases h; rfl⟩ | exact Or.inr (fun d h => by cases h; rfl) | exact Or.inl ⟨rfl, fun d h => by cases h; rfl⟩) ?_)))
  · repeat (first
      | (with_reducible refine lops_step fun K hK => ?_; simp (disch := first | exact dch | fail) only [go_sem, Nat.reduceAdd, Nat.reduceSub, reduceIte, Nat.reduceEqDiff, Int.reduceToNat, Int.reduceBEq, Int.reduceBNe, ls, lv]; (repeat (with_reducible refine And.intro acl ?_)); (first | (refine hK _ _ ?_) | (refine ⟨_, rfl, hK _ _ ?_⟩) | (refine Or.inr (hK _ _ ?_)) | (refine Or.inr ⟨rfl, hK _ _ ?_⟩)); clear hK K)
      | (with_reducible refine lops_nil ?_)
      | (with_reducible first | refine lavc_reg ?_ | refine lavc_seq ?_ | refine lavc_block ?_ | refine lavc_skip ?_ | refine lavc_exit ?_ | refine lavc_ret ?_ | refine lavcR_round ?_)
      | (simp only [↓reduceIte, Nat.reduceEqDiff, reduceCtorEq]))
    repeat (first
      | ((with_reducible refine lopsF_step ?_ fun K hK => ?_); (case _ => (simp only [lfreesAt]; repeat (first | exact trivial | (refine And.intro (by unfold lfreeAt; unfold aopO; simp (disch := first | exact dch | fail) only [go_sem, Nat.reduceAdd, Nat.reduceSub, reduceIte, Nat.reduceEqDiff, Int.reduceToNat, Int.reduceBEq, Int.reduceBNe, ls, lv, s1, v1, ev, el]; (repeat (with_reducible refine And.intro acl ?_)); first | exact ⟨rfl, fun d h => by cases h; rfl⟩ | exact fun d h => by cases h; rfl | exact Or.inr ⟨rfl, fun d h => by cases h; rfl⟩ | exact Or.inr (fun d h => by cases h; rfl) | exact Or.inl ⟨rfl, fun d h => by cases h; rfl⟩) ?_)))); with_reducible skip; simp (disch := first | exact dch | fail) only [go_sem, Nat.reduceAdd, Nat.reduceSub, reduceIte, Nat.reduceEqDiff, Int.reduceToNat, Int.reduceBEq, Int.reduceBNe, ls, lv, s1, v1, ev, el]; (repeat (with_reducible refine And.intro acl ?_)); (first | (refine hK _ _ ?_) | (refine ⟨_, rfl, hK _ _ ?_⟩) | (refine Or.inr (hK _ _ ?_)) | (refine Or.inr ⟨rfl, hK _ _ ?_⟩)); clear hK K)
      | ((with_reducible refine lopsF_nil ?_ ?_); (case _ => (simp only [lfreesAt]; repeat (first | exact trivial | (refine And.intro (by unfold lfreeAt; unfold aopO; simp (disch := first | exact dch | fail) only [go_sem, Nat.reduceAdd, Nat.reduceSub, reduceIte, Nat.reduceEqDiff, Int.reduceToNat, Int.reduceBEq, Int.reduceBNe, ls, lv, s1, v1, ev, el]; (repeat (with_reducible refine And.intro acl ?_)); first | exact ⟨rfl, fun d h => by cases h; rfl⟩ | exact fun d h => by cases h; rfl | exact Or.inr ⟨rfl, fun d h => by cases h; rfl⟩ | exact Or.inr (fun d h => by cases h; rfl) | exact Or.inl ⟨rfl, fun d h => by cases h; rfl⟩) ?_)))))
      | (with_reducible first | refine lavc_reg ?_ | refine lavc_seq ?_ | refine lavc_block ?_ | refine lavc_skip ?_ | refine lavc_exit ?_ | refine lavc_ret ?_ | refine lavcR_round ?_)
      | (simp only [↓reduceIte, Nat.reduceEqDiff, reduceCtorEq]))
    repeat (first
      | (with_reducible refine lopsN_step fun K hK => ?_; simp (disch := first | exact dch | fail) only [go_sem, Nat.reduceAdd, Nat.reduceSub, reduceIte, Nat.reduceEqDiff, Int.reduceToNat, Int.reduceBEq, Int.reduceBNe, ls, lv, s1, v1, ev, el]; (repeat (with_reducible refine And.intro acl ?_)); (first | (refine hK _ _ ?_) | (refine ⟨_, rfl, hK _ _ ?_⟩) | (refine Or.inl (hK _ _ ?_))); clear hK K)
      | (with_reducible refine lopsN_nil ?_)
      | (with_reducible first | refine lavc_reg ?_ | refine lavc_seq ?_ | refine lavc_block ?_ | refine lavc_skip ?_ | refine lavc_exit ?_ | refine lavc_ret ?_ | refine lavcR_round ?_)
      | (simp only [↓reduceIte, Nat.reduceEqDiff, reduceCtorEq]))
    exact ⟨trivial, rfl⟩
theorem roundX (N X : List ByteArray) (p : List ByteArray) (hp : p.length ≠ 2) (hp2 : p.length ≤ 1000) (c : Option Nat) : lavc Tryd.prog glob lcb10 (tB (.vsl p.length (strs p) c)) (HP N X) fun e t H => e = .normal ∧ H = HP N X := by
  unfold tB
  simp only [List.replicate_succ, List.replicate_zero, List.cons_append, List.nil_append]
  unfold lcb10
  have q : (((p.length : Int) : Int) == 2) = false := by rw [beq_eq_false_iff_ne, ne_eq]; omega
  repeat (first
    | (with_reducible refine lops_step fun K hK => ?_; simp (disch := first | exact dch | fail) only [go_sem, Nat.reduceAdd, Nat.reduceSub, reduceIte, Nat.reduceEqDiff, Int.reduceToNat, Int.reduceBEq, Int.reduceBNe, q]; (try (first | (refine And.intro (fun _ => ?_) (fun h => absurd h (by decide))) | (refine And.intro (fun h => absurd h (by decide)) (fun _ => ?_)))); (repeat (with_reducible refine And.intro acl ?_)); (first | (refine hK _ _ ?_) | (refine ⟨_, rfl, hK _ _ ?_⟩) | (refine Or.inl (hK _ _ ?_))); clear hK K)
    | (with_reducible refine lops_nil ?_)
    | (with_reducible first | refine lavc_reg ?_ | refine lavc_seq ?_ | refine lavc_block ?_ | refine lavc_skip ?_ | refine lavc_exit ?_ | refine lavc_ret ?_ | refine lavcR_round ?_)
    | (refine lavc_cond rfl (fun _ => ?_) (fun hc => absurd hc (by decide)))
    | (refine lavc_cond rfl (fun hc => absurd hc (by decide)) (fun _ => ?_))
    | (simp only [↓reduceIte, Nat.reduceEqDiff, reduceCtorEq]))
  exact ⟨trivial, trivial⟩
open Go.Proofs
open Go.Proofs.YtgmchiadphdlhaaDoor.Chk (part parts Kr)
set_option linter.unusedVariables false
set_option linter.unusedSimpArgs false
set_option maxRecDepth 100000
set_option maxHeartbeats 4000000
theorem NR.strs (N : List ByteArray) : ∀ x ∈ strs N, NR x := fun x hx => by
  obtain ⟨s, _, rfl⟩ := List.mem_map.1 hx
  exact NR.v _
theorem NR.valsX (X : List ByteArray) : ∀ x ∈ vals X, NR x := fun x hx => by
  obtain ⟨s, _, hx⟩ := List.mem_flatMap.1 hx
  simp only [valT, List.mem_cons, List.not_mem_nil, or_false] at hx
  rcases hx with rfl | rfl | rfl | rfl <;> exact NR.v _
/-- Chunk, the maker: both arguments are boxed. -/
theorem chunk_w (a : Option Addr) (len cap : Nat) (w : World) : Calls Tryd.prog 23 #[.slice a len cap, .int .i64 2] w fun e w' =>
    e = .returned (.func (.func 38) #[] #[.pointer (some ⟨w.heap.size, 0, none⟩), .pointer (some ⟨w.heap.size + 1, 0, none⟩)]) ∧ w' = (w.alloc (.cells #[.slice a len cap] 23)).alloc (.cells #[.int .i64 2] 3) := by
  refine (callsIn_wide (n := 3)).1 ?_
  refine callsIn_of_wp Tryd.func23 rfl trivial ?_ rfl
  simp only [Tryd.ntmps23, List.size_toArray, List.length_cons, List.length_nil, Nat.reduceAdd, Nat.reduceSub, Array.replicate_succ, Array.replicate_zero, List.push_toArray, List.append_toArray, List.nil_append, List.cons_append]
  gi_wp2
  go_ret
  exact ⟨rfl, rfl⟩
theorem chunk_p (ss : List ByteArray) (c : Option Nat) : PCall Tryd.prog glob 23 [.vsl ss.length (strs ss) c, ivC 2] (.fn (.func 38) [.vptr [.vsl ss.length (strs ss) c] 0, .vptr [ivC 2] 0]) := by
  intro H
  refine ⟨⟨_, Tryd.func23, by kernel_rfl, by kernel_rfl⟩, fun σ w us hu ha rel => ?_⟩
  obtain ⟨u0, u1, rfl⟩ : ∃ u v, us = #[u, v] := by
    obtain ⟨l⟩ := us
    match l, hu with
    | [u, v], _ => exact ⟨u, v, rfl⟩
  have h0 := ha 0 (by simp)
  have h1 := ha 1 (by simp)
  simp only [List.getD_cons_zero, List.getD_cons_succ] at h0 h1
  have e0 : (#[u0, u1] : Array Value).getD 0 undef = u0 := rfl
  have e1 : (#[u0, u1] : Array Value).getD 1 undef = u1 := rfl
  rw [e0] at h0
  rw [e1] at h1
  cases h1
  obtain ⟨A, len, cap, rfl⟩ : ∃ A l c, u0 = .slice A l c := by
    generalize ss.length = n at h0
    generalize strs ss = cs at h0
    cases h0 <;> exact ⟨_, _, _, rfl⟩
  refine (chunk_w A len cap w).mono ?_
  rintro e W ⟨rfl, rfl⟩
  obtain ⟨r1, x1, m1⟩ := rel.seal #[.slice A len cap] 23 (0, 0)
  obtain ⟨w1, hw1⟩ : ∃ w1, w.alloc (.cells #[.slice A len cap] 23) = w1 := ⟨_, rfl⟩
  have hs1 : w1.heap.size = w.heap.size + 1 := by rw [← hw1]; simp
  have hc1 : w1.cell? ⟨w.heap.size, 0, none⟩ = some (.slice A len cap) := by rw [← hw1]; simp only [World.cell?]; rw [World.alloc_heap_new]; rfl
  rw [hw1] at r1 x1 m1 ⊢
  obtain ⟨r2, x2, m2⟩ := r1.seal #[.int .i64 2] 3 (0, 0)
  refine ⟨_, rfl, _, ?_, r2, x1.trans x2, fun _ => ⟨fun B hB => .same ?_, fun _ _ _ h => .inl h⟩⟩
  · refine .fn _ rfl fun j hj => ?_
    match j, hj with
    | 0, _ =>
      refine AR.vptr (off := 0) w.heap.size 0 (fun _ => .slice A len cap) (.inl (.inr rfl)) (fun j hj => ?_) (fun j hj => ?_)
      · obtain rfl : j = 0 := by simpa using hj
        rw [World.cell?_of_block (RowKit.Below.heap_alloc _ _ _ (show w.heap.size < w1.heap.size by omega))]
        exact hc1
      · obtain rfl : j = 0 := by simpa using hj
        exact m2 _ _ (m1 _ _ h0)
    | 1, _ =>
      show AR _ _ (.vptr [ivC 2] 0) (.pointer (some ⟨w.heap.size + 1, 0, none⟩))
      rw [← hs1]
      refine AR.vptr (off := 0) w1.heap.size 0 (fun _ => .int .i64 2) (Or.inr rfl) (fun j hj => ?_) (fun j hj => ?_)
      · obtain rfl : j = 0 := by simpa using hj
        simp only [World.cell?]
        rw [World.alloc_heap_new]
        rfl
      · obtain rfl : j = 0 := by simpa using hj
        exact .v _
  · rw [RowKit.Below.heap_alloc _ _ _ (show B < w1.heap.size by omega), ← hw1, RowKit.Below.heap_alloc _ _ _ hB]
open Go.Proofs
open Go.Proofs.YtgmchiadphdlhaaDoor.Chk (parts Kr chunk_stops chunk_stops0)
set_option linter.unusedVariables false
set_option linter.unusedSimpArgs false
set_option maxRecDepth 100000
set_option maxHeartbeats 4000000
noncomputable def ofC : Code := (Tryd.f10.body).getD .skip
theorem ofC_eq : Tryd.f10.body = some ofC := by kernel_rfl
def sq1 : Code → Code
  | .seq a _ => a
  | c => c
def sq2 : Code → Code
  | .seq _ b => b
  | c => c
def lq1 : LCode → LCode
  | .seq a _ => a
  | c => c
def lrg : LCode → List LOp
  | .reg _ post => post
  | _ => []
def lq2 : LCode → LCode
  | .seq _ b => b
  | c => c
def rfB (c : Code) : Code := match rfOf c with
  | some x => x.2.2.2
  | none => .skip
def rfA (c : Code) : Code := match rfOf c with
  | some x => x.2.2.1
  | none => .skip
def opsOf : Code → Array Oper
  | .region _ ops _ => ops
  | _ => #[]
theorem ofC_shape : ofC = .seq (sq1 ofC) (.seq (sq1 (sq2 ofC)) (.seq (.seq (sq1 (sq1 (sq2 (sq2 ofC)))) (.block 0 (.rangeFunc (.tmp 7) #[8] (rfA ofC) (rfB ofC)))) (.seq (sq1 (sq2 (sq2 (sq2 ofC)))) .ret))) := by kernel_rfl
theorem rfA_shape : rfA ofC = .region 3 #[(opsOf (rfA ofC))[0]!] false := by kernel_rfl
theorem rfA_op : (opsOf (rfA ofC))[0]!.op = .assign (.tmp 8) := by kernel_rfl
theorem rfA_dst : (opsOf (rfA ofC))[0]!.dst = some 4 := by kernel_rfl
theorem rfA_guard : (opsOf (rfA ofC))[0]!.guard = none := by kernel_rfl
theorem of_s0 : strip Tryd.prog impCodC (sq1 ofC) = lq1 lc10 := by kernel_rfl
theorem of_s1 : strip Tryd.prog impCodC (sq1 (sq2 ofC)) = lq1 (lq2 lc10) := by kernel_rfl
theorem of_s2 : strip Tryd.prog impCodC (sq1 (sq1 (sq2 (sq2 ofC)))) = lq1 (lq1 (lq2 (lq2 lc10))) := by kernel_rfl
theorem of_s6 : strip Tryd.prog impCodC (sq1 (sq2 (sq2 (sq2 ofC)))) = lq1 (lq2 (lq2 (lq2 lc10))) := by kernel_rfl
theorem of_d6 : sq1 (sq2 (sq2 (sq2 ofC))) = .region 6 (opsOf (sq1 (sq2 (sq2 (sq2 ofC))))) false := by kernel_rfl
theorem of_sb : strip Tryd.prog impCodF (rfB ofC) = lcb10 := by kernel_rfl
/-- The pairs' first and second ones. -/
def pick (ss : List ByteArray) (d : Nat) (pre : List Nat) : List ByteArray := pre.filterMap fun k => if 2 * k + 2 ≤ ss.length then some (ss.getD (2 * k + d) ⟨#[]⟩) else none
def nms (ss : List ByteArray) : List ByteArray := pick ss 0 (List.range (parts ss.length))
def txs (ss : List ByteArray) : List ByteArray := pick ss 1 (List.range (parts ss.length))
theorem pick_snoc (ss : List ByteArray) (d : Nat) (pre : List Nat) (k : Nat) : pick ss d (pre ++ [k]) = if 2 * k + 2 ≤ ss.length then pick ss d pre ++ [ss.getD (2 * k + d) ⟨#[]⟩] else pick ss d pre := by
  unfold pick
  rw [List.filterMap_append]
  by_cases h : 2 * k + 2 ≤ ss.length
  · rw [if_pos h]
    simp [h]
  · rw [if_neg h]
    simp [h]
theorem pick_len (ss : List ByteArray) (d e : Nat) (pre : List Nat) : (pick ss d pre).length = (pick ss e pre).length := by
  induction pre with
  | nil => rfl
  | cons k pre ih =>
    unfold pick at ih ⊢
    rw [List.filterMap_cons, List.filterMap_cons]
    by_cases h : 2 * k + 2 ≤ ss.length
    · rw [if_pos h, if_pos h, List.length_cons, List.length_cons, ih]
    · rw [if_neg h, if_neg h]
      exact ih
theorem pick_le (ss : List ByteArray) (d : Nat) (pre : List Nat) : (pick ss d pre).length ≤ pre.length := List.length_filterMap_le _ _
/-- A page of texts. -/
def pageA (N X : List ByteArray) : AV := .agg [ivC 6, stA ⟨#[]⟩, .vsl N.length (strs N) none, .vsl N.length (vals X) none]
theorem NR.pageA (N X : List ByteArray) : NR (pageA N X) := NR.agg (by
  intro x hx
  simp only [List.mem_cons, List.not_mem_nil, or_false] at hx
  rcases hx with rfl | rfl | rfl | rfl
  · exact NR.v _
  · exact NR.v _
  · exact NR.vsl (NR.strs _)
  · exact NR.vsl (NR.valsX _))
/-- A round, whatever the part. -/
theorem round_any (ss : List ByteArray) (hs : ss.length ≤ 1000) (pre : List Nat) (hp : pre.length ≤ 1000) (k : Nat) (c : Option Nat) :
    lavc Tryd.prog glob lcb10 (tB (.vsl (min 2 (ss.length - 2 * k)) (strs ((ss.drop (2 * k)).take 2)) c)) (HP (pick ss 0 pre) (pick ss 1 pre)) fun e t H => e = .normal ∧ H = HP (pick ss 0 (pre ++ [k])) (pick ss 1 (pre ++ [k])) := by
  have hl : ((ss.drop (2 * k)).take 2).length = min 2 (ss.length - 2 * k) := by rw [List.length_take, List.length_drop]
  rw [pick_snoc, pick_snoc]
  by_cases h : 2 * k + 2 ≤ ss.length
  · rw [if_pos h, if_pos h]
    have e2 : (ss.drop (2 * k)).take 2 = [ss.getD (2 * k + 0) ⟨#[]⟩, ss.getD (2 * k + 1) ⟨#[]⟩] := by
      rw [List.drop_eq_getElem_cons (by omega), List.drop_eq_getElem_cons (by omega)]
      simp only [List.take_succ_cons, List.take_zero, List.getD_eq_getElem?_getD, Nat.add_zero]
      rw [List.getElem?_eq_getElem (by omega), List.getElem?_eq_getElem (by omega)]
      rfl
    rw [e2, show min 2 (ss.length - 2 * k) = 2 from by omega]
    by_cases h0 : pick ss 0 pre = []
    · have h1 : pick ss 1 pre = [] := List.eq_nil_of_length_eq_zero (by rw [pick_len ss 1 0, h0]; rfl)
      rw [h0, h1]
      exact round0 _ _ c
    · exact round1 _ _ h0 (pick_len ss 1 0 pre) (Nat.le_trans (pick_le ss 0 pre) hp) _ _ c
  · rw [if_neg h, if_neg h, ← hl]
    exact roundX _ _ _ (by omega) (by omega) c
/-- What the k-th part holds. -/
theorem part_ar {σ : Sig} {w : World} {ss : List ByteArray} {B o : Nat} {u : Nat → Value} (hr : σ.ro B) (hm : ∀ j, j < (strs ss).length → w.cell? ⟨B, o + j, none⟩ = some (u j)) (ha : ∀ j, j < (strs ss).length → AR σ w ((strs ss).getD j .any) (u j)) (k : Nat) :
    AR σ w (.vsl (min 2 (ss.length - 2 * k)) (strs ((ss.drop (2 * k)).take 2)) none) (Go.Proofs.YtgmchiadphdlhaaDoor.Chk.part B o ss.length k) := by
  have hl : (strs ((ss.drop (2 * k)).take 2)).length = min 2 (ss.length - 2 * k) := by rw [strs_length, List.length_take, List.length_drop]
  have hs := strs_length ss
  unfold Go.Proofs.YtgmchiadphdlhaaDoor.Chk.part
  refine .vsl B (o + 2 * k) _ (fun j => u (2 * k + j)) hr (fun j hj => ?_) (fun j hj => ?_) (Nat.le_refl _) (fun c h => by cases h)
  · rw [Nat.add_assoc]
    exact hm _ (by omega)
  · have := ha (2 * k + j) (by omega)
    have e : (strs ((ss.drop (2 * k)).take 2)).getD j .any = (strs ss).getD (2 * k + j) .any := by
      have e1 : strs ((ss.drop (2 * k)).take 2) = ((strs ss).drop (2 * k)).take 2 := by simp [strs, List.map_take, List.map_drop]
      rw [e1, List.getD_eq_getElem?_getD, List.getD_eq_getElem?_getD, List.getElem?_take, if_pos (by omega), List.getElem?_drop]
    rw [e]
    exact this
/-- How far a page is. -/
def IOf (ss : List ByteArray) (σ0 : Sig) (w0 : World) (pre : List Nat) (W : World) : Prop := pre.length ≤ 1000 ∧ ∃ σ', Rel glob σ' (HP (pick ss 0 pre) (pick ss 1 pre)) W ∧ Ext σ0 (HP [] []) w0 σ' (HP (pick ss 0 pre) (pick ss 1 pre)) W
theorem of_end (N X : List ByteArray) (hX : X.length = N.length) (t : List AV) (h2 : t.getD 2 .any = .ptr 0 0 0) (h3 : t.getD 3 .any = .ptr 1 0 0) (hl : t.length = 30) :
    lops Tryd.prog glob false (lrg (lq1 (lq2 (lq2 (lq2 lc10))))) t (HP N X) fun t H => aret Tryd.prog t H [.cell 2 26] fun r => Fin 0 H r (pageA N X) [] := by
  match t, hl with
  | [a0, a1, a2, a3, a4, a5, a6, a7, a8, a9, b0, b1, b2, b3, b4, b5, b6, b7, b8, b9, c0, c1, c2, c3, c4, c5, c6, c7, c8, c9], _ =>
    simp only [List.getD_cons_succ, List.getD_cons_zero] at h2 h3
    subst h2 h3
    simp only [lc10, lq1, lq2, lrg]
    unfold HP
    by_cases h0 : N = []
    · subst h0
      obtain rfl : X = [] := List.eq_nil_of_length_eq_zero hX
      rw [if_pos rfl]
      repeat (first
        | (with_reducible refine lops_step fun K hK => ?_; simp (disch := first | exact dch | fail) only [go_sem, Nat.reduceAdd, Nat.reduceSub, reduceIte, Nat.reduceEqDiff, Int.reduceToNat, Int.reduceBEq, Int.reduceBNe]; (try (first | (refine And.intro (fun _ => ?_) (fun h => absurd h (by decide))) | (refine And.intro (fun h => absurd h (by decide)) (fun _ => ?_)))); (repeat (with_reducible refine And.intro acl ?_)); (first | (refine hK _ _ ?_) | (refine ⟨_, rfl, hK _ _ ?_⟩) | (refine Or.inl (hK _ _ ?_))); clear hK K)
        | (with_reducible refine lops_nil ?_)
        | (with_reducible first | refine lavc_reg ?_ | refine lavc_seq ?_ | refine lavc_block ?_ | refine lavc_skip ?_ | refine lavc_exit ?_ | refine lavc_ret ?_ | refine lavcR_round ?_)
        | (refine lavc_cond rfl (fun _ => ?_) (fun hc => absurd hc (by decide)))
        | (refine lavc_cond rfl (fun hc => absurd hc (by decide)) (fun _ => ?_))
        | (simp only [↓reduceIte, Nat.reduceEqDiff, reduceCtorEq]))
      simp (disch := first | exact dch | fail) only [go_sem, Nat.reduceAdd, Nat.reduceSub, reduceIte, Nat.reduceEqDiff, Int.reduceToNat, Int.reduceBEq, Int.reduceBNe, aenv, aret, aretL, aret1]
      exact ⟨Nat.le_refl _, .agg rfl (fun j hj => (match j, hj with
        | 0, _ => .nr (NR.v _)
        | 1, _ => .nr (NR.v _)
        | 2, _ => .nil
        | 3, _ => .nil)), Nat.zero_le _, fun b k hb => absurd hb (Nat.not_lt_zero _), rfl⟩
    · rw [if_neg h0]
      have ls := strs_length N
      have lv := vals_length X
      repeat (first
        | (with_reducible refine lops_step fun K hK => ?_; simp (disch := first | exact dch | fail) only [go_sem, Nat.reduceAdd, Nat.reduceSub, reduceIte, Nat.reduceEqDiff, Int.reduceToNat, Int.reduceBEq, Int.reduceBNe]; (try (first | (refine And.intro (fun _ => ?_) (fun h => absurd h (by decide))) | (refine And.intro (fun h => absurd h (by decide)) (fun _ => ?_)))); (repeat (with_reducible refine And.intro acl ?_)); (first | (refine hK _ _ ?_) | (refine ⟨_, rfl, hK _ _ ?_⟩) | (refine Or.inl (hK _ _ ?_))); clear hK K)
        | (with_reducible refine lops_nil ?_)
        | (with_reducible first | refine lavc_reg ?_ | refine lavc_seq ?_ | refine lavc_block ?_ | refine lavc_skip ?_ | refine lavc_exit ?_ | refine lavc_ret ?_ | refine lavcR_round ?_)
        | (refine lavc_cond rfl (fun _ => ?_) (fun hc => absurd hc (by decide)))
        | (refine lavc_cond rfl (fun hc => absurd hc (by decide)) (fun _ => ?_))
        | (simp only [↓reduceIte, Nat.reduceEqDiff, reduceCtorEq]))
      simp (disch := first | exact dch | fail) only [go_sem, Nat.reduceAdd, Nat.reduceSub, reduceIte, Nat.reduceEqDiff, Int.reduceToNat, Int.reduceBEq, Int.reduceBNe, aenv, aret, aretL, aret1]
      refine ⟨Nat.le_refl _, .agg rfl (fun j hj => (match j, hj with
        | 0, _ => .nr (NR.v _)
        | 1, _ => .nr (NR.v _)
        | 2, _ => ?_
        | 3, _ => ?_)), Nat.zero_le _, fun b k hb => absurd hb (Nat.not_lt_zero _), rfl⟩
      · have e : ((strs N).drop 0).take (N.length * 1) = strs N := by rw [List.drop_zero]; exact List.take_of_length_le (by omega)
        show View 0 _ (.sl 2 (N.length - 1) 0 N.length N.length 1 false) (.vsl N.length (strs N) none)
        rw [show AV.vsl N.length (strs N) none = AV.vsl N.length (((strs N).drop 0).take (N.length * 1)) none from by rw [e]]
        exact View.sl (k := ⟨strs N, N.length - 1, true, 9⟩) (Nat.zero_le _) rfl rfl rfl (Nat.le_refl _) (by show 0 + N.length * 1 ≤ (strs N).length; omega) (NR.strs N)
      · have e : ((vals X).drop 0).take (N.length * 4) = vals X := by rw [List.drop_zero]; exact List.take_of_length_le (by omega)
        show View 0 _ (.sl 3 (N.length - 1) 0 N.length N.length 4 false) (.vsl N.length (vals X) none)
        rw [show AV.vsl N.length (vals X) none = AV.vsl N.length (((vals X).drop 0).take (N.length * 4)) none from by rw [e]]
        exact View.sl (k := ⟨vals X, N.length - 1, true, 26⟩) (Nat.zero_le _) rfl rfl rfl (Nat.le_refl _) (by show 0 + N.length * 4 ≤ (vals X).length; omega) (NR.valsX X)
theorem of_begin (ss : List ByteArray) (c : Option Nat) : lavc Tryd.prog glob (lq1 lc10) ([.vsl ss.length (strs ss) c] ++ List.replicate 29 (.v undef)) [] fun e t H => e = .normal ∧ lavc Tryd.prog glob (lq1 (lq2 lc10)) t H fun e t H => e = .normal ∧ lavc Tryd.prog glob (lq1 (lq1 (lq2 (lq2 lc10)))) t H fun e t H =>
    e = .normal ∧ H = HP [] [] ∧ t.getD 2 .any = .ptr 0 0 0 ∧ t.getD 3 .any = .ptr 1 0 0 ∧ t.getD 7 .any = .fn (.func 38) [.vptr [.vsl ss.length (strs ss) c] 0, .vptr [ivC 2] 0] ∧ t.length = 30 := by
  simp only [lc10, lq1, lq2, List.replicate_succ, List.replicate_zero, List.cons_append, List.nil_append]
  have cp := chunk_p ss c
  repeat (first
    | (with_reducible refine lops_step fun K hK => ?_; simp (disch := first | exact dch | fail) only [go_sem, Nat.reduceAdd, Nat.reduceSub, reduceIte, Nat.reduceEqDiff, Int.reduceToNat, Int.reduceBEq, Int.reduceBNe]; (try (first | (refine And.intro (fun _ => ?_) (fun h => absurd h (by decide))) | (refine And.intro (fun h => absurd h (by decide)) (fun _ => ?_)))); (repeat (with_reducible refine And.intro acl ?_)); (first | (refine hK _ _ ?_) | (refine ⟨_, rfl, hK _ _ ?_⟩) | (refine Or.inl (hK _ _ ?_))); clear hK K)
    | (with_reducible refine lops_nil ?_)
    | (with_reducible first | refine lavc_reg ?_ | refine lavc_seq ?_ | refine lavc_block ?_ | refine lavc_skip ?_ | refine lavc_exit ?_ | refine lavc_ret ?_ | refine lavcR_round ?_)
    | (refine lavc_cond rfl (fun _ => ?_) (fun hc => absurd hc (by decide)))
    | (refine lavc_cond rfl (fun hc => absurd hc (by decide)) (fun _ => ?_))
    | (simp only [↓reduceIte, Nat.reduceEqDiff, reduceCtorEq]))
  refine ⟨trivial, ?_⟩
  repeat (first
    | (with_reducible refine lops_step fun K hK => ?_; simp (disch := first | exact dch | fail) only [go_sem, Nat.reduceAdd, Nat.reduceSub, reduceIte, Nat.reduceEqDiff, Int.reduceToNat, Int.reduceBEq, Int.reduceBNe]; (try (first | (refine And.intro (fun _ => ?_) (fun h => absurd h (by decide))) | (refine And.intro (fun h => absurd h (by decide)) (fun _ => ?_)))); (repeat (with_reducible refine And.intro acl ?_)); (first | (refine hK _ _ ?_) | (refine ⟨_, rfl, hK _ _ ?_⟩) | (refine Or.inl (hK _ _ ?_))); clear hK K)
    | (with_reducible refine lops_nil ?_)
    | (with_reducible first | refine lavc_reg ?_ | refine lavc_seq ?_ | refine lavc_block ?_ | refine lavc_skip ?_ | refine lavc_exit ?_ | refine lavc_ret ?_ | refine lavcR_round ?_)
    | (refine lavc_cond rfl (fun _ => ?_) (fun hc => absurd hc (by decide)))
    | (refine lavc_cond rfl (fun hc => absurd hc (by decide)) (fun _ => ?_))
    | (simp only [↓reduceIte, Nat.reduceEqDiff, reduceCtorEq]))
  refine ⟨trivial, ?_⟩
  repeat (first
    | (with_reducible refine lops_step fun K hK => ?_; simp (disch := first | exact dch | fail) only [go_sem, Nat.reduceAdd, Nat.reduceSub, reduceIte, Nat.reduceEqDiff, Int.reduceToNat, Int.reduceBEq, Int.reduceBNe]; (try (first | (refine And.intro (fun _ => ?_) (fun h => absurd h (by decide))) | (refine And.intro (fun h => absurd h (by decide)) (fun _ => ?_)))); (repeat (with_reducible refine And.intro acl ?_)); (first | (refine hK _ _ ?_) | (refine ⟨_, rfl, hK _ _ ?_⟩) | (refine Or.inl (hK _ _ ?_)) | (refine ⟨_, _, Or.inl (cp.go _), (by first | exact ⟨[], (List.append_nil _).symm⟩ | exact ⟨_, rfl⟩), hK _ _ ?_⟩) | (refine ⟨_, _, Or.inl (cp.go _), hK _ _ ?_⟩) | (refine ⟨_, _, Or.inl (cp.go _).weakQ, hK _ _ ?_⟩)); clear hK K)
    | (with_reducible refine lops_nil ?_)
    | (with_reducible first | refine lavc_reg ?_ | refine lavc_seq ?_ | refine lavc_block ?_ | refine lavc_skip ?_ | refine lavc_exit ?_ | refine lavc_ret ?_ | refine lavcR_round ?_)
    | (refine lavc_cond rfl (fun _ => ?_) (fun hc => absurd hc (by decide)))
    | (refine lavc_cond rfl (fun hc => absurd hc (by decide)) (fun _ => ?_))
    | (simp only [↓reduceIte, Nat.reduceEqDiff, reduceCtorEq]))
  exact ⟨trivial, by unfold HP; rw [if_pos rfl], rfl, rfl, rfl, rfl⟩
/-- The rounds' act. -/
def actA (a : Act) (v : Value) : Act := ({ tmps := a.tmps.setIfInBounds 8 v, defers := [] } : Act).put (some 4) (({ tmps := a.tmps.setIfInBounds 8 v, defers := [] } : Act).eval (.tmp 8))
theorem actA_get (a : Act) (v : Value) (h : a.tmps.size = 30) (j : Nat) (hj : j < 30) : (actA a v).tmps.getD j undef = if j = 4 ∨ j = 8 then v else a.tmps.getD j undef := by
  have hs : (a.tmps.setIfInBounds 8 v).size = 30 := by simp [h]
  have e8 : ({ tmps := a.tmps.setIfInBounds 8 v, defers := [] } : Act).eval (.tmp 8) = v := by
    show (a.tmps.setIfInBounds 8 v).getD 8 undef = v
    rw [Array.getD_eq_getD_getElem?, Array.getElem?_setIfInBounds]
    simp [h]
  unfold actA
  rw [e8, put_getD _ _ _ _ (by show j < (a.tmps.setIfInBounds 8 v).size; omega)]
  by_cases h4 : j = 4
  · subst h4
    simp
  · rw [if_neg (by intro e; cases e; exact h4 rfl)]
    show (a.tmps.setIfInBounds 8 v).getD j undef = _
    rw [Array.getD_eq_getD_getElem?, Array.getElem?_setIfInBounds, Array.getD_eq_getD_getElem?]
    by_cases h8 : j = 8
    · subst h8
      simp [h]
    · rw [if_neg (by omega), if_neg (by omega)]
theorem assign_in {l : Nat} {m : Nat} {a : Act} {v : Value} {W : World} {K : Act → World → Prop} (hK : K (actA a v) W) :
    (rfA ofC).wpIn (Fence.wide.inRound l) m Tryd.prog (Exit.then K (fun _ _ _ => False)) { tmps := a.tmps.setIfInBounds 8 v, defers := [] } W := by
  rw [rfA_shape]
  have hd : ∀ c, (opsOf (rfA ofC))[0]!.op ≠ .defer c := fun c => by rw [rfA_op]; simp
  have ho := rfA_op
  have hds := rfA_dst
  have hg := rfA_guard
  generalize (opsOf (rfA ofC))[0]! = o at *
  refine wpIn_region_list ?_
  show wpListIn _ _ _ _ _ [o] _ _
  unfold wpListIn
  have hw : Region.wanted o (yielded #[o] ({ tmps := a.tmps.setIfInBounds 8 v, defers := [] } : Act).tmps) = true := by simp [Region.wanted, hg]
  rw [if_pos hw]
  refine op_in (ro := some l) hd ?_
  unfold Oper.wp
  have hr : (execOp ({ tmps := a.tmps.setIfInBounds 8 v, defers := [] } : Act).eval o).run Tryd.prog W = .ok (.value (({ tmps := a.tmps.setIfInBounds 8 v, defers := [] } : Act).eval (.tmp 8))) W := by
    unfold execOp
    rw [ho]
    rfl
  rw [hr, Oper.upon_value, hds]
  exact hK
/-- page.Of. -/
theorem pageOf_p (ss : List ByteArray) (c : Option Nat) (hs : ss.length ≤ 1000) : PCall Tryd.prog glob 10 [.vsl ss.length (strs ss) c] (pageA (nms ss) (txs ss)) := by
  refine PCall.of ctx.nr (List.forall_mem_cons.2 ⟨NR.vsl (NR.strs _), fun _ h => absurd h List.not_mem_nil⟩) (NR.pageA _ _) ?_
  refine ⟨⟨_, Tryd.func10, by kernel_rfl, by kernel_rfl⟩, fun σ w us hu ha rel => ?_⟩
  refine (callsIn_wide (n := 3)).1 ?_
  refine callsIn_of_wp_marks Tryd.func10 ofC_eq trivial ?_ rfl
  have hnt : Tryd.f10.ntmps = 30 := by kernel_rfl
  have hres : Tryd.f10.results.toList = [.cell 2 26] := by kernel_rfl
  rw [hnt]
  obtain ⟨a0, ha0⟩ : ∃ a0 : Act, a0 = { tmps := us ++ Array.replicate (30 - us.size) undef, defers := [] } := ⟨_, rfl⟩
  have s0 : Sim glob σ ([.vsl ss.length (strs ss) c] ++ List.replicate 29 (.v undef)) [] a0 w := by
    rw [ha0]
    refine ⟨rfl, by simp [hu], fun j hj => ?_, rel⟩
    simp only [List.length_append, List.length_replicate] at hj
    by_cases hja : j < 1
    · obtain rfl : j = 0 := by omega
      have := ha 0 (by simp)
      simpa [List.getD_eq_getElem?_getD, List.getElem?_append, Array.getElem?_append, hu] using this
    · have e1 : ([AV.vsl ss.length (strs ss) c] ++ List.replicate 29 (AV.v undef)).getD j .any = .v undef := by
        rw [List.getD_eq_getElem?_getD, List.getElem?_append_right (by simpa using (by omega : 1 ≤ j)), List.getElem?_replicate, if_pos (by simp at hj ⊢; omega)]
        rfl
      have e2 : (us ++ Array.replicate (30 - us.size) undef).getD j undef = undef := by
        have hus : us.size = 1 := hu
        rw [Array.getD_eq_getD_getElem?, Array.getElem?_append, if_neg (by omega), Array.getElem?_replicate, if_pos (by simp at hj; omega)]
        rfl
      rw [e1]
      show AR σ w (.v undef) ((us ++ Array.replicate (30 - us.size) undef).getD j undef)
      rw [e2]
      exact .v _
  rw [← ha0]
  clear ha0
  rw [ofC_shape]
  refine wpIn_seq (Code.wpIn_mono (fun e a w1 hq => ?_) (of_begin ss c impCodC _ of_s0 ctx.mix none 3 σ [] w σ a0 w s0 (Ext.refl _ _ _)))
  obtain ⟨t1, H1, σ1, ⟨rfl, k1⟩, s1, x1⟩ := hq
  refine wpIn_seq (Code.wpIn_mono (fun e a w2 hq => ?_) (k1 impCodC _ of_s1 ctx.mix none 3 σ [] w σ1 a w1 s1 x1))
  obtain ⟨t2, H2, σ2, ⟨rfl, k2⟩, s2, x2⟩ := hq
  refine wpIn_seq (wpIn_seq (Code.wpIn_mono (fun e a w3 hq => ?_) (k2 impCodC _ of_s2 ctx.mix none 3 σ [] w σ2 a w2 s2 x2)))
  obtain ⟨t3, H3, σ3, ⟨rfl, rfl, q2, q3, q7, ql⟩, s3, x3⟩ := hq
  clear k1 k2 s1 s2 x1 x2
  refine wpIn_block ?_
  have hsz : a.tmps.size = 30 := s3.size.trans ql
  -- the iterator
  have hfv := s3.tmps 7 (by omega)
  rw [q7] at hfv
  have hev : a.eval (.tmp 7) = a.tmps.getD 7 undef := rfl
  generalize a.tmps.getD 7 undef = uf at hfv hev
  cases hfv with
  | fn lb hl ha' =>
  have g0 := ha' 0 (by simp)
  have g1 := ha' 1 (by simp)
  simp only [List.getD_cons_zero, List.getD_cons_succ] at g0 g1
  obtain ⟨p0, p1, rfl⟩ : ∃ u v, lb = #[u, v] := by
    obtain ⟨l⟩ := lb
    match l, hl with
    | [u, v], _ => exact ⟨u, v, rfl⟩
  have e0 : (#[p0, p1] : Array Value).getD 0 undef = p0 := rfl
  have e1 : (#[p0, p1] : Array Value).getD 1 undef = p1 := rfl
  rw [e0] at g0
  rw [e1] at g1
  cases g0 with
  | vptr B0 o0 u0 r0 hm0 har0 =>
  cases g1 with
  | vptr B1 o1 u1 r1 hm1 har1 =>
  have c0 := hm0 0 (by simp)
  have c1 := hm1 0 (by simp)
  have v0 := har0 0 (by simp)
  have v1 := har1 0 (by simp)
  simp only [List.getD_cons_zero, Nat.add_zero] at c0 c1 v0 v1
  have hu1 : u1 0 = .int .i64 2 := by
    generalize u1 0 = y at v1
    cases v1
    rfl
  rw [hu1] at c1
  have rel3 := s3.rel
  have lt0 := rel3.roLt _ r0
  have lt1 := rel3.roLt _ r1
  have key : ∃ pv : Nat → Value, (∀ k, AR σ3 w3 (.vsl (min 2 (ss.length - 2 * k)) (strs ((ss.drop (2 * k)).take 2)) none) (pv k)) ∧
      SeqStopsK Fence.wide 2 Tryd.prog 38 #[.pointer (some ⟨B0, o0, none⟩), .pointer (some ⟨B1, o1, none⟩)] (fun y : Nat => #[pv y]) (Kr σ3.ro) (fun ys => ys = List.range (parts ss.length)) (fun _ => True) (parts ss.length) w3 := by
    generalize u0 0 = y at v0 c0
    have hsl := strs_length ss
    generalize hn : ss.length = n at v0
    generalize hcs : strs ss = cs at v0
    cases v0 with
    | vsl B o cap uu hr hm har hle hx =>
      subst hcs hn
      exact ⟨_, part_ar hr hm har, chunk_stops Fence.wide 2 trivial rfl (by decide) σ3.ro B0 o0 B1 o1 B o ss.length cap (by omega) hle r0 r1 w3 lt0 lt1 c0 c1⟩
    | vsl0 A cap hx =>
      obtain rfl : ss = [] := List.eq_nil_of_length_eq_zero hn
      refine ⟨fun _ => .slice none 0 0, fun k => ?_, ?_⟩
      · have : (strs ((([] : List ByteArray).drop (2 * k)).take 2)) = [] := by simp [strs]
        rw [this]
        show AR σ3 w3 (.vsl (min 2 (0 - 2 * k)) [] none) _
        rw [Nat.zero_sub, Nat.min_zero]
        exact .vsl0 none 0 (fun c h => by cases h)
      · exact chunk_stops0 Fence.wide 2 trivial rfl σ3.ro B0 o0 _ A cap _ w3 lt0 c0
  obtain ⟨pv, hpv, hseq⟩ := key
  refine wpIn_rangeFunc_ownF (F := Fence.wide) rfl (by decide) (gf := 38) hev trivial (enters_of Tryd.func38 (by kernel_rfl) rfl) hseq (fun h k => h.trans k)
    (fun W l o o' hl ho hoc hw => ⟨(Go.grownBy_putObj' W l o').size, fun B hB => (Go.grownBy_putObj' W l o').block B (by have := rel3.roLt B hB; have := (Array.getElem?_eq_some_iff.1 ho).1; omega) (fun e => by have := rel3.roLt B hB; cases e; omega)⟩)
    (RowKit.Below.refl _ _) (fun _ => rfl) (IOf ss σ3 w3) (fun _ _ _ => False)
    (fun s W W' row ⟨hl, σ', r, x⟩ hg hr => ⟨hl, σ', (r.grow hg (fun k e => (hr k e).2)).1, x.grow hg (fun k e => (hr k e).1)⟩)
    (fun _ _ _ _ _ h _ _ => h) ⟨by simp, σ3, rel3, Ext.refl _ _ _⟩ (fun k => actA a (pv k)) ?assign ?body ?done ?stop
  case assign =>
    intro l x W K hK
    have h := assign_in (l := l) (m := 3 - 1 - 1) (v := pv x) hK
    simpa using h
  case body =>
    rintro l pre x W ⟨hpl, σ', r, xt⟩ hlen
    have lv := round_any ss hs pre hpl x none
    have hmv : ∀ y u, AR σ3 w3 y u → AR σ' W y u := fun y u h => h.ext rel3 xt
    have s : Sim glob σ' (tB (.vsl (min 2 (ss.length - 2 * x)) (strs ((ss.drop (2 * x)).take 2)) none)) (HP (pick ss 0 pre) (pick ss 1 pre)) (actA a (pv x)) W := by
      refine ⟨rfl, ?_, fun j hj => ?_, r⟩
      · rw [actA, Act.put_size]
        simp [tB, hsz]
      · have hj : j < 30 := by simpa [tB] using hj
        rw [actA_get a (pv x) hsz j hj]
        by_cases h3 : j = 3
        · subst h3
          have := hmv _ _ (s3.tmps 3 (by omega))
          rw [q3] at this
          exact this
        · by_cases h4 : j = 4
          · subst h4
            exact hmv _ _ (hpv x)
          · have : (tB (.vsl (min 2 (ss.length - 2 * x)) (strs ((ss.drop (2 * x)).take 2)) none)).getD j .any = .any := by
              have : j = 0 ∨ j = 1 ∨ j = 2 ∨ 5 ≤ j := by omega
              rcases this with rfl | rfl | rfl | h5
              · rfl
              · rfl
              · rfl
              · unfold tB
                rw [List.getD_eq_getElem?_getD, List.getElem?_append_right (by simpa using h5), List.getElem?_replicate]
                split <;> rfl
            rw [this]
            exact .any _
    refine Code.wpIn_mono ?_ (lv impCodF _ of_sb ctx.mix (some l) (3 - 1 - 1) σ' _ W σ' _ W s (Ext.refl _ _ _))
    rintro e a' W' ⟨t', H', σ'', ⟨rfl, rfl⟩, s', x'⟩
    refine ⟨x'.keeps r, ⟨x'.size, fun B hB => r.roKept x' B (xt.ro B hB)⟩, ?_, σ'', s'.rel, xt.trans x'⟩
    have : parts ss.length ≤ 501 := by unfold Go.Proofs.YtgmchiadphdlhaaDoor.Chk.parts; omega
    simp only [List.length_append, List.length_singleton]
    omega
  case done =>
    rintro D xs W hD rfl ⟨_, σ', r, xt⟩ hdf
    show (Code.seq (sq1 (sq2 (sq2 (sq2 ofC)))) .ret).wpIn _ _ _ _ _ _
    have s4 : Sim glob σ' t3 (HP (nms ss) (txs ss)) a W := ⟨s3.defers, s3.size, fun j hj => (s3.tmps j hj).ext rel3 xt, r⟩
    have le := of_end (nms ss) (txs ss) (pick_len ss 1 0 _) t3 q2 q3 ql
    obtain ⟨id, ops, draw, hc, hdn, hf, _⟩ := strip_reg (show strip Tryd.prog impCodC (sq1 (sq2 (sq2 (sq2 ofC)))) = .reg [] (lrg (lq1 (lq2 (lq2 (lq2 lc10))))) from of_s6)
    have hdr : draw = false := by
      have := of_d6
      rw [hc] at this
      cases this
      rfl
    subst hdr
    obtain ⟨_, hL⟩ := hf rfl
    rw [hL] at le
    rw [s3.defers]
    refine wpIn_seq ?_
    rw [hc]
    have hwl := lops_list (l := ops.toList) (Q := nrm fun e a' w' => e = .normal ∧ a'.defers = [] ∧ ∃ t' H' σ'', aret Tryd.prog t' H' [.cell 2 26] (fun r => Fin 0 H' r (pageA (nms ss) (txs ss)) []) ∧ Sim glob σ'' t' H' a' w' ∧ Ext σ' (HP (nms ss) (txs ss)) W σ'' H' w') le σ' a W s4 (fun t' H' σ'' a' w' k1 k2 k3 => ⟨rfl, rfl, k2.defers, t', H', σ'', k1, k2, k3⟩)
    have hwd := wpList_def [{ target := .collected D, args := #[] }] (fun a' w' h => h.2.1) hwl
    refine Code.wpIn_mono ?_ (region_list (ro := none) (n := 3) hdn hwd)
    rintro e a' W2 ⟨a1, ⟨rfl, hd1, t', H', σ'', k1, k2, k3⟩, rfl⟩
    refine wpIn_ret ?_
    have hdf2 : W2.heap[D]? = some (.deferred (some [])) := (k3.keeps r).same D _ hdf rfl
    have hgr := Go.grownBy_putObj' W2 D (.deferred none)
    obtain ⟨r2, m2⟩ := k2.rel.grow hgr (fun k e => by cases e; exact ⟨_, hdf2, rfl⟩)
    have x2 : Ext σ [] w σ'' H' (W2.putObj D (.deferred none)) := (x3.trans (xt.trans k3)).grow hgr (fun k e => by cases e; exact Nat.le_trans x3.size hD)
    have s5 : Sim glob σ'' t' H' a1 (W2.putObj D (.deferred none)) := ⟨hd1, k2.size, fun j hj => m2 _ _ (k2.tmps j hj), r2⟩
    rw [← hres] at k1
    obtain ⟨rr, u, ⟨hv, hl2, hn, hh⟩, hrun, hru⟩ := aret_ok s5 k1
    refine ⟨by simp, .inl ⟨D, _, rfl, Go.run_takeDeferred hdf2, ?_⟩⟩
    refine ⟨u, hrun, u, rfl, ?_⟩
    have hcut := Res.cut ctx.nr rel r2 x2 (Nat.le_refl _) hl2 hv hru hn
    exact hcut
  case stop =>
    rintro D c pre W _ _ h _
    exact h.elim
end Go.Abs.S
