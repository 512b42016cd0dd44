/- hour: numbers out of texts. hour: what a text tells, plainly. hour: a text read, in the program. hour: the order of texts; texts read; plainly. -/
import Derived.Test.YtgmchiadphdlhaaDoorMuI
import Derived.Test.YtgmchiadphdlhaaDoorMuB
import Derived.Test.YtgmchiadphdlhaaDoorCoiPure
namespace Go.Abs.S
attribute [local go_sem] lguard aopO aop nxL aenv toAV tput aLoad aStore vcells aBin aNilI aUn aAlloc aBox aBuild aBSlice afill aConv isIntT aappZ aCap aArr aMM aMake aSlice bnd3 bnd aFldAddr aFld aIdxAddr aIdx aExt aLen aCopy aEq0 bAV aUb aapp aappQ agh acont List.getD_cons_zero List.getD_cons_succ List.set_cons_zero List.set_cons_succ List.getElem?_cons_zero List.getElem?_cons_succ List.length_cons List.length_nil List.map_cons List.map_nil ints_length if_true if_false Bool.false_eq_true true_and and_true eq_self ne_eq not_false_eq_true not_true_eq_false beq_self_eq_true Nat.zero_add Nat.add_zero Nat.mul_one Nat.zero_mul Int.toNat_natCast List.toList_toArray List.all_cons List.all_nil AV.one Value.oneCell' Bool.and_true Bool.true_and forall_const true_implies false_implies implies_true Option.map_some Option.map_none Option.isSome_some Option.isSome_none imp_self rdP_flat rdP_row splice_one ints_set ints_get List.append_nil List.cons_append List.nil_append List.getElem?_toArray List.drop_zero ints_drop ints_take List.take_of_length_le splice_all ints_one Option.some.injEq Option.getD_some List.length_replicate zArr List.map_replicate rep_ints splice_intsR List.length_set List.length_append List.flatten_replicate_singleton rep_slice rep_string rep_bool rep_iface List.replicate_zero if_pos if_neg List.mapM_cons List.mapM_nil Option.pure_def Option.bind_eq_bind Option.bind_some Bool.true_eq_false Bool.not_false Bool.not_true get_concat set_concat
open Go.Proofs
open Go.Abs.H
set_option linter.unusedVariables false
set_option linter.unusedSimpArgs false
set_option maxRecDepth 100000
set_option maxHeartbeats 4000000
/-- The number of a text's first bytes. -/
def num (s : ByteArray) : Nat → Int
  | 0 => 0
  | k + 1 => num s k * 10 + (bt s k - 48)
def AllD (s : ByteArray) : Prop := ∀ i, i < s.size → 48 ≤ bt s i ∧ bt s i ≤ 57
instance (s : ByteArray) : Decidable (AllD s) := inferInstanceAs (Decidable (∀ i, i < s.size → _))
theorem num_in (s : ByteArray) (h : AllD s) : ∀ k, k ≤ s.size → 0 ≤ num s k ∧ num s k < 10 ^ k
  | 0, _ => by simp [num]
  | k + 1, hk => by
    have ih := num_in s h k (by omega)
    have hb := h k (by omega)
    have e : (10 : Int) ^ (k + 1) = 10 ^ k * 10 := Int.pow_succ _ _
    simp only [num]
    omega
theorem pow18 {k : Nat} (h : k ≤ 18) : (10 : Int) ^ k ≤ 1000000000000000000 := by
  have : ∀ k, k ≤ 18 → (10 : Int) ^ k ≤ 1000000000000000000 := by decide
  exact this k h
theorem bytesOf_length (s : ByteArray) : (bytesOf s).length = s.size := by
  unfold bytesOf
  cases s
  simp [ByteArray.size]
theorem bytesOf_at (s : ByteArray) (i : Nat) (h : i < s.size) : (bytesOf s).getD i 0 = bt s i := by
  unfold bytesOf bt
  have : i < s.data.toList.length := by rw [Array.length_toList]; exact h
  simp only [List.getD_eq_getElem?_getD, List.getElem?_map, List.getElem?_eq_getElem this, Option.map_some, Option.getD_some]
theorem iAtoi_p (s : ByteArray) (h1 : 1 ≤ s.size) (h2 : s.size ≤ 18) (hd : AllD s) : PCall Tryd.prog glob 78 [.v (.string s)] (.tup [iv (num s s.size), .v .nilIface]) := by
  refine PCall.of ctx.nr nrs (NR.t2 _ _) ?_
  refine lcall78 (by simp) 0 (Nat.le_refl _) ?_
  unfold lc78
  simp only [List.length_cons, List.length_nil, Nat.reduceAdd, Nat.reduceSub, List.replicate_succ, List.replicate_zero, List.cons_append, List.nil_append]
  have d1 : decide ((0 : Int) < s.size) = true := by rw [decide_eq_true_eq]; omega
  have d2 : decide ((s.size : Int) < 19) = true := by rw [decide_eq_true_eq]; omega
  have h0 := hd 0 (by omega)
  obtain ⟨a, ha⟩ : ∃ a, bt s 0 = a := ⟨_, rfl⟩
  have hsa : ((s.data.toList.getD 0 0).toNat : Int) = a := ha
  rw [ha] at h0
  have q1 : ((a : Int) == 45) = false := by rw [beq_eq_false_iff_ne, ne_eq]; omega
  have q2 : ((a : Int) == 43) = false := by rw [beq_eq_false_iff_ne, ne_eq]; omega
  have em : List.map (fun b : UInt8 => AV.v (Value.int .u8 (b.toNat : Int))) s.data.toList = ints .u8 (bytesOf s) := by simp [ints, bytesOf]
  have hbl := bytesOf_length s
  repeat (first
    | (with_reducible refine lops_step fun K hK => ?_; simp (disch := first | exact dch | fail) only [go_sem, Nat.reduceAdd, Nat.reduceSub, reduceIte, Nat.reduceEqDiff, Int.reduceToNat, Int.reduceBEq, Int.reduceBNe, d1, d2, hsa, q1, q2, em, hbl]; (try (first | (refine And.intro (fun _ => ?_) (fun h => absurd h (by decide))) | (refine And.intro (fun h => absurd h (by decide)) (fun _ => ?_)))); (repeat (with_reducible refine And.intro acl ?_)); (first | (refine hK _ _ ?_) | (refine ⟨_, rfl, hK _ _ ?_⟩) | (refine Or.inl (hK _ _ ?_))); clear hK K)
    | (with_reducible refine lops_nil ?_)
    | (with_reducible first | refine lavc_reg ?_ | refine lavc_seq ?_ | refine lavc_block ?_ | refine lavc_skip ?_ | refine lavc_exit ?_ | refine lavc_ret ?_ | refine lavcR_round ?_)
    | (refine lavc_cond rfl (fun _ => ?_) (fun hc => absurd hc (by decide)))
    | (refine lavc_cond rfl (fun hc => absurd hc (by decide)) (fun _ => ?_))
    | (simp only [↓reduceIte, Nat.reduceEqDiff, reduceCtorEq]))
  refine lavc_loopM ms78_0 (fun m (k : Nat) => m + k = s.size) (fun k => [(6, iv (num s k)), (49, iv k)]) (fun _ => [⟨ints .u8 (bytesOf s), 0, true, 5⟩]) s.size 0 (by omega) ?_ ?_ ?_
  · simp only [ms78_0, putAll, blank, List.foldl_cons, List.foldl_nil, List.set_cons_succ, List.set_cons_zero, List.cons_append, List.nil_append, ALe, true_or, or_true, and_true, true_and, eq_self, reduceCtorEq, false_or]
    exact ⟨rfl, rfl⟩
  · rfl
  intro m k hk
  simp only [ms78_0, putAll, blank, List.foldl_cons, List.foldl_nil, List.set_cons_succ, List.set_cons_zero, List.cons_append, List.nil_append]
  have hn := num_in s hd k (by omega)
  have hp := pow18 (k := k) (by omega)
  repeat (first
    | (with_reducible refine lops_step fun K hK => ?_; simp (disch := first | exact dch | fail) only [go_sem, Nat.reduceAdd, Nat.reduceSub, reduceIte, Nat.reduceEqDiff, Int.reduceToNat, Int.reduceBEq, Int.reduceBNe, hbl]; (repeat (with_reducible refine And.intro acl ?_)); (first | (refine hK _ _ ?_) | (refine ⟨_, rfl, hK _ _ ?_⟩) | (refine Or.inl (hK _ _ ?_))); clear hK K)
    | (with_reducible refine lops_nil ?_)
    | (with_reducible first | refine lavc_reg ?_ | refine lavc_seq ?_ | refine lavc_block ?_ | refine lavc_skip ?_ | refine lavc_exit ?_ | refine lavc_ret ?_ | refine lavcR_round ?_)
    | (simp only [↓reduceIte, Nat.reduceEqDiff, reduceCtorEq]))
  refine lavc_cond rfl (fun hc => ?_) (fun hc => ?_) <;> try simp only [decide_eq_true_eq, decide_eq_false_iff_not, Int.not_lt, Int.not_le, beq_iff_eq, bne_iff_ne, bne_eq_false_iff_eq, beq_eq_false_iff_ne, ne_eq, Bool.not_eq_true', Bool.not_eq_false'] at hc
  · have hb := hd k (by omega)
    have hbk := bytesOf_at s k (by omega)
    have e1 : IntKind.u8.wrap (bt s k - 48) = bt s k - 48 := by rw [IntKind.wrap_u8]; omega
    have hn1 := num_in s hd (k + 1) (by omega)
    have hp1 := pow18 (k := k + 1) (by omega)
    have hns : num s (k + 1) = num s k * 10 + (bt s k - 48) := rfl
    have d9 : decide (bt s k - 48 > 9) = false := by rw [decide_eq_false_iff_not]; omega
    have e2 := i64z (num s k * 10) (by omega)
    have e3 := i64z (bt s k - 48) (by omega)
    have e4 := i64z (num s k * 10 + (bt s k - 48)) (by omega)
    have e5 := i64n ((k : Int) + 1) (k + 1) (by omega) (by omega)
    repeat (first
      | (with_reducible refine lops_step fun K hK => ?_; simp (disch := first | exact dch | fail) only [go_sem, Nat.reduceAdd, Nat.reduceSub, reduceIte, Nat.reduceEqDiff, Int.reduceToNat, Int.reduceBEq, Int.reduceBNe, hbl, hbk, e1, e2, e3, e4, e5, d9]; (try (first | (refine And.intro (fun _ => ?_) (fun h => absurd h (by decide))) | (refine And.intro (fun h => absurd h (by decide)) (fun _ => ?_)))); (repeat (with_reducible refine And.intro acl ?_)); (first | (refine hK _ _ ?_) | (refine ⟨_, rfl, hK _ _ ?_⟩) | (refine Or.inl (hK _ _ ?_))); clear hK K)
      | (with_reducible refine lops_nil ?_)
      | (with_reducible first | refine lavc_reg ?_ | refine lavc_seq ?_ | refine lavc_block ?_ | refine lavc_skip ?_ | refine lavc_exit ?_ | refine lavc_ret ?_ | refine lavcR_round ?_)
      | (refine lavc_cond rfl (fun _ => ?_) (fun hc => absurd hc (by decide)))
      | (refine lavc_cond rfl (fun hc => absurd hc (by decide)) (fun _ => ?_))
      | (simp only [↓reduceIte, Nat.reduceEqDiff, reduceCtorEq]))
    refine ⟨m - 1, k + 1, by omega, by omega, ?_, trivial⟩
    simp only [ms78_0, putAll, blank, List.foldl_cons, List.foldl_nil, List.set_cons_succ, List.set_cons_zero, List.cons_append, List.nil_append, ALe, true_or, or_true, and_true, true_and, eq_self, reduceCtorEq, false_or]
    rfl
  obtain rfl : k = s.size := by omega
  repeat (first
    | (with_reducible refine lops_step fun K hK => ?_; simp (disch := first | exact dch | fail) only [go_sem, Nat.reduceAdd, Nat.reduceSub, reduceIte, Nat.reduceEqDiff, Int.reduceToNat, Int.reduceBEq, Int.reduceBNe, hsa, q1]; (try (first | (refine And.intro (fun _ => ?_) (fun h => absurd h (by decide))) | (refine And.intro (fun h => absurd h (by decide)) (fun _ => ?_)))); (repeat (with_reducible refine And.intro acl ?_)); (first | (refine hK _ _ ?_) | (refine ⟨_, rfl, hK _ _ ?_⟩) | (refine Or.inl (hK _ _ ?_))); clear hK K)
    | (with_reducible refine lops_nil ?_)
    | (with_reducible first | refine lavc_reg ?_ | refine lavc_seq ?_ | refine lavc_block ?_ | refine lavc_skip ?_ | refine lavc_exit ?_ | refine lavc_ret ?_ | refine lavcR_round ?_)
    | (refine lavc_cond rfl (fun _ => ?_) (fun hc => absurd hc (by decide)))
    | (refine lavc_cond rfl (fun hc => absurd hc (by decide)) (fun _ => ?_))
    | (simp only [↓reduceIte, Nat.reduceEqDiff, reduceCtorEq]))
  refine And.intro (by simp) ?_
  simp (disch := first | exact dch | fail) only [go_sem, Nat.reduceAdd, Nat.reduceSub, reduceIte, Nat.reduceEqDiff, Int.reduceToNat, Int.reduceBEq, Int.reduceBNe, aret, aretL, aret1, aenv]
  (repeat (with_reducible refine And.intro acl ?_))
  exact end0 (NR.t2 _ _) rfl
theorem Atoi_p (s : ByteArray) (h1 : 1 ≤ s.size) (h2 : s.size ≤ 18) (hd : AllD s) : PCall Tryd.prog glob 71 [.v (.string s)] (.tup [iv (num s s.size), .v .nilIface]) := by
  refine PCall.of ctx.nr nrs (NR.t2 _ _) ?_
  refine lcall71 (by simp) 0 (Nat.le_refl _) ?_
  unfold lc71
  simp only [List.length_cons, List.length_nil, Nat.reduceAdd, Nat.reduceSub, List.replicate_succ, List.replicate_zero, List.cons_append, List.nil_append]
  have ap := iAtoi_p s h1 h2 hd
  repeat (first
    | (with_reducible refine lops_step fun K hK => ?_; simp (disch := first | exact dch | fail) only [go_sem, Nat.reduceAdd, Nat.reduceSub, reduceIte, Nat.reduceEqDiff, Int.reduceToNat, Int.reduceBEq, Int.reduceBNe]; (try (first | (refine And.intro (fun _ => ?_) (fun h => absurd h (by decide))) | (refine And.intro (fun h => absurd h (by decide)) (fun _ => ?_)))); (repeat (with_reducible refine And.intro acl ?_)); (first | (refine hK _ _ ?_) | (refine ⟨_, rfl, hK _ _ ?_⟩) | (refine Or.inl (hK _ _ ?_)) | (refine ⟨_, _, Or.inl (ap.go _), (by first | exact ⟨[], (List.append_nil _).symm⟩ | exact ⟨_, rfl⟩), hK _ _ ?_⟩) | (refine ⟨_, _, Or.inl (ap.go _), hK _ _ ?_⟩) | (refine ⟨_, _, Or.inl (ap.go _).weakQ, hK _ _ ?_⟩)); clear hK K)
    | (with_reducible refine lops_nil ?_)
    | (with_reducible first | refine lavc_reg ?_ | refine lavc_seq ?_ | refine lavc_block ?_ | refine lavc_skip ?_ | refine lavc_exit ?_ | refine lavc_ret ?_ | refine lavcR_round ?_)
    | (refine lavc_cond rfl (fun _ => ?_) (fun hc => absurd hc (by decide)))
    | (refine lavc_cond rfl (fun hc => absurd hc (by decide)) (fun _ => ?_))
    | (simp only [↓reduceIte, Nat.reduceEqDiff, reduceCtorEq]))
  refine And.intro (by simp) ?_
  simp (disch := first | exact dch | fail) only [go_sem, Nat.reduceAdd, Nat.reduceSub, reduceIte, Nat.reduceEqDiff, Int.reduceToNat, Int.reduceBEq, Int.reduceBNe, aret, aretL, aret1, aenv]
  (repeat (with_reducible refine And.intro acl ?_))
  exact end0 (NR.t2 _ _) rfl
theorem number_p (s : ByteArray) (h1 : 1 ≤ s.size) (h2 : s.size ≤ 18) (hd : AllD s) : PCall Tryd.prog glob 60 [.v (.string s)] (iv (num s s.size)) := by
  refine PCall.of ctx.nr nrs (NR.v _) ?_
  refine lcall60 (by simp) 0 (Nat.le_refl _) ?_
  unfold lc60
  simp only [List.length_cons, List.length_nil, Nat.reduceAdd, Nat.reduceSub, List.replicate_succ, List.replicate_zero, List.cons_append, List.nil_append]
  have ap := Atoi_p s h1 h2 hd
  repeat (first
    | (with_reducible refine lops_step fun K hK => ?_; simp (disch := first | exact dch | fail) only [go_sem, Nat.reduceAdd, Nat.reduceSub, reduceIte, Nat.reduceEqDiff, Int.reduceToNat, Int.reduceBEq, Int.reduceBNe]; (repeat (with_reducible refine And.intro acl ?_)); (first | (refine hK _ _ ?_) | (refine ⟨_, rfl, hK _ _ ?_⟩) | (refine Or.inl (hK _ _ ?_)) | (refine ⟨_, _, Or.inl (ap.go _), (by first | exact ⟨[], (List.append_nil _).symm⟩ | exact ⟨_, rfl⟩), hK _ _ ?_⟩) | (refine ⟨_, _, Or.inl (ap.go _), hK _ _ ?_⟩) | (refine ⟨_, _, Or.inl (ap.go _).weakQ, hK _ _ ?_⟩)); clear hK K)
    | (with_reducible refine lops_nil ?_)
    | (with_reducible first | refine lavc_reg ?_ | refine lavc_seq ?_ | refine lavc_block ?_ | refine lavc_skip ?_ | refine lavc_exit ?_ | refine lavc_ret ?_ | refine lavcR_round ?_)
    | (simp only [↓reduceIte, Nat.reduceEqDiff, reduceCtorEq]))
  refine And.intro (by simp) ?_
  simp (disch := first | exact dch | fail) only [go_sem, Nat.reduceAdd, Nat.reduceSub, reduceIte, Nat.reduceEqDiff, Int.reduceToNat, Int.reduceBEq, Int.reduceBNe, aret, aretL, aret1, aenv]
  (repeat (with_reducible refine And.intro acl ?_))
  exact end0 (NR.v _) rfl
open Go.Proofs
open Go.Abs.H
set_option linter.unusedVariables false
set_option linter.unusedSimpArgs false
set_option maxRecDepth 100000
set_option maxHeartbeats 4000000
theorem okc_d {a : Int} : okc a 100 ↔ (48 ≤ a ∧ a ≤ 57) := by unfold okc; omega
theorem okc_s {a c : Int} (h : c ≠ 100) (h2 : ¬ (48 ≤ c ∧ c ≤ 57)) : okc a c ↔ a = c := by unfold okc; omega
theorem ext_size (s : ByteArray) (a b : Nat) : (s.extract a b).size = min b s.size - a := by simp
theorem bt_ext (s : ByteArray) (a b i : Nat) (h : a + i < b) : bt (s.extract a b) i = bt s (a + i) := by
  unfold bt
  rw [Go.Abs.C.ext_list]
  simp only [List.getD_eq_getElem?_getD, List.getElem?_drop, List.getElem?_take]
  rw [if_pos h]
abbrev dg (s : ByteArray) (i : Nat) : Prop := 48 ≤ bt s i ∧ bt s i ≤ 57
abbrev F19 : ByteArray := ⟨#[100, 100, 100, 100, 45, 100, 100, 45, 100, 100, 84, 100, 100, 58, 100, 100, 58, 100, 100]⟩
abbrev FP : ByteArray := ⟨#[43, 100, 100, 58, 100, 100]⟩
abbrev FM : ByteArray := ⟨#[45, 100, 100, 58, 100, 100]⟩
def D19 (s : ByteArray) : Prop := (dg s 0 ∧ dg s 1 ∧ dg s 2 ∧ dg s 3) ∧ bt s 4 = 45 ∧ (dg s 5 ∧ dg s 6) ∧ bt s 7 = 45 ∧ (dg s 8 ∧ dg s 9) ∧ bt s 10 = 84 ∧ (dg s 11 ∧ dg s 12) ∧ bt s 13 = 58 ∧ (dg s 14 ∧ dg s 15) ∧ bt s 16 = 58 ∧ (dg s 17 ∧ dg s 18)
instance (s : ByteArray) : Decidable (D19 s) := inferInstanceAs (Decidable (_ ∧ _))
theorem f19_size : F19.size = 19 := rfl
theorem fits19 (s : ByteArray) (h : s.size = 19) : Fits s F19 ↔ D19 s := by
  unfold Fits D19
  rw [f19_size, h]
  constructor
  · rintro ⟨_, hk⟩
    have g := fun i (hi : i < 19) => hk i hi
    refine ⟨⟨okc_d.1 (g 0 (by omega)), okc_d.1 (g 1 (by omega)), okc_d.1 (g 2 (by omega)), okc_d.1 (g 3 (by omega))⟩, (okc_s (by decide) (by decide)).1 (g 4 (by omega)), ⟨okc_d.1 (g 5 (by omega)), okc_d.1 (g 6 (by omega))⟩, (okc_s (by decide) (by decide)).1 (g 7 (by omega)), ⟨okc_d.1 (g 8 (by omega)), okc_d.1 (g 9 (by omega))⟩, (okc_s (by decide) (by decide)).1 (g 10 (by omega)), ⟨okc_d.1 (g 11 (by omega)), okc_d.1 (g 12 (by omega))⟩, (okc_s (by decide) (by decide)).1 (g 13 (by omega)), ⟨okc_d.1 (g 14 (by omega)), okc_d.1 (g 15 (by omega))⟩, (okc_s (by decide) (by decide)).1 (g 16 (by omega)), ⟨okc_d.1 (g 17 (by omega)), okc_d.1 (g 18 (by omega))⟩⟩
  · rintro ⟨⟨h0, h1, h2, h3⟩, h4, ⟨h5, h6⟩, h7, ⟨h8, h9⟩, h10, ⟨h11, h12⟩, h13, ⟨h14, h15⟩, h16, ⟨h17, h18⟩⟩
    refine ⟨rfl, fun i hi => ?_⟩
    have hc : i = 0 ∨ i = 1 ∨ i = 2 ∨ i = 3 ∨ i = 4 ∨ i = 5 ∨ i = 6 ∨ i = 7 ∨ i = 8 ∨ i = 9 ∨ i = 10 ∨ i = 11 ∨ i = 12 ∨ i = 13 ∨ i = 14 ∨ i = 15 ∨ i = 16 ∨ i = 17 ∨ i = 18 := by omega
    rcases hc with rfl | rfl | rfl | rfl | rfl | rfl | rfl | rfl | rfl | rfl | rfl | rfl | rfl | rfl | rfl | rfl | rfl | rfl | rfl
    · exact okc_d.2 h0
    · exact okc_d.2 h1
    · exact okc_d.2 h2
    · exact okc_d.2 h3
    · exact (okc_s (by decide) (by decide)).2 h4
    · exact okc_d.2 h5
    · exact okc_d.2 h6
    · exact (okc_s (by decide) (by decide)).2 h7
    · exact okc_d.2 h8
    · exact okc_d.2 h9
    · exact (okc_s (by decide) (by decide)).2 h10
    · exact okc_d.2 h11
    · exact okc_d.2 h12
    · exact (okc_s (by decide) (by decide)).2 h13
    · exact okc_d.2 h14
    · exact okc_d.2 h15
    · exact (okc_s (by decide) (by decide)).2 h16
    · exact okc_d.2 h17
    · exact okc_d.2 h18
/-- A shift's form, its sign c. -/
def DSh (c : Int) (s : ByteArray) : Prop := bt s 0 = c ∧ (dg s 1 ∧ dg s 2) ∧ bt s 3 = 58 ∧ (dg s 4 ∧ dg s 5)
theorem fitsP (s : ByteArray) : Fits s FP ↔ s.size = 6 ∧ DSh 43 s := by
  unfold Fits DSh
  have e : FP.size = 6 := rfl
  rw [e]
  constructor
  · rintro ⟨hs, hk⟩
    have g := fun i (hi : i < 6) => hk i (by omega)
    exact ⟨hs, (okc_s (by decide) (by decide)).1 (g 0 (by omega)), ⟨okc_d.1 (g 1 (by omega)), okc_d.1 (g 2 (by omega))⟩, (okc_s (by decide) (by decide)).1 (g 3 (by omega)), ⟨okc_d.1 (g 4 (by omega)), okc_d.1 (g 5 (by omega))⟩⟩
  · rintro ⟨hs, h0, ⟨h1, h2⟩, h3, ⟨h4, h5⟩⟩
    refine ⟨hs, fun i hi => ?_⟩
    have hc : i = 0 ∨ i = 1 ∨ i = 2 ∨ i = 3 ∨ i = 4 ∨ i = 5 := by omega
    rcases hc with rfl | rfl | rfl | rfl | rfl | rfl
    · exact (okc_s (by decide) (by decide)).2 h0
    · exact okc_d.2 h1
    · exact okc_d.2 h2
    · exact (okc_s (by decide) (by decide)).2 h3
    · exact okc_d.2 h4
    · exact okc_d.2 h5
theorem fitsM (s : ByteArray) : Fits s FM ↔ s.size = 6 ∧ DSh 45 s := by
  unfold Fits DSh
  have e : FM.size = 6 := rfl
  rw [e]
  constructor
  · rintro ⟨hs, hk⟩
    have g := fun i (hi : i < 6) => hk i (by omega)
    exact ⟨hs, (okc_s (by decide) (by decide)).1 (g 0 (by omega)), ⟨okc_d.1 (g 1 (by omega)), okc_d.1 (g 2 (by omega))⟩, (okc_s (by decide) (by decide)).1 (g 3 (by omega)), ⟨okc_d.1 (g 4 (by omega)), okc_d.1 (g 5 (by omega))⟩⟩
  · rintro ⟨hs, h0, ⟨h1, h2⟩, h3, ⟨h4, h5⟩⟩
    refine ⟨hs, fun i hi => ?_⟩
    have hc : i = 0 ∨ i = 1 ∨ i = 2 ∨ i = 3 ∨ i = 4 ∨ i = 5 := by omega
    rcases hc with rfl | rfl | rfl | rfl | rfl | rfl
    · exact (okc_s (by decide) (by decide)).2 h0
    · exact okc_d.2 h1
    · exact okc_d.2 h2
    · exact (okc_s (by decide) (by decide)).2 h3
    · exact okc_d.2 h4
    · exact okc_d.2 h5
def n2 (s : ByteArray) (i : Nat) : Int := (bt s i - 48) * 10 + (bt s (i + 1) - 48)
def n4 (s : ByteArray) (i : Nat) : Int := (((bt s i - 48) * 10 + (bt s (i + 1) - 48)) * 10 + (bt s (i + 2) - 48)) * 10 + (bt s (i + 3) - 48)
def momS (s : ByteArray) : Mom := ⟨⟨n4 s 0, n2 s 5, n2 s 8⟩, n2 s 11, n2 s 14, n2 s 17⟩
/-- The shift's form at place 19. -/
def E25 (s : ByteArray) : Prop := (bt s 19 = 43 ∨ bt s 19 = 45) ∧ (dg s 20 ∧ dg s 21) ∧ bt s 22 = 58 ∧ (dg s 23 ∧ dg s 24)
instance (s : ByteArray) : Decidable (E25 s) := inferInstanceAs (Decidable (_ ∧ _))
def Formed (s : ByteArray) : Prop := D19 s ∧ ((s.size = 20 ∧ bt s 19 = 90) ∨ (s.size = 25 ∧ E25 s))
instance (s : ByteArray) : Decidable (Formed s) := inferInstanceAs (Decidable (_ ∧ _))
def shf (s : ByteArray) : Int := if s.size = 20 then 0 else if bt s 19 = 43 then -(n2 s 20 * 3600 + n2 s 23 * 60) else n2 s 20 * 3600 + n2 s 23 * 60
instance (t : Mom) : Decidable t.ok := inferInstanceAs (Decidable (_ ∧ _))
/-- What a text tells, and the error. -/
def readP (s : ByteArray) : Int × Int :=
  if ¬ Formed s then (0, 2)
  else if s.size = 25 ∧ (23 < n2 s 20 ∨ 59 < n2 s 23) then (0, 12)
  else if ¬ (momS s).ok then (0, 12)
  else if ¬ (tFirst ≤ secs (momS s) + shf s ∧ secs (momS s) + shf s ≤ tLast) then (0, 12)
  else (secs (momS s) + shf s, 0)
theorem dg_ext (s : ByteArray) (a b i : Nat) (h : a + i < b) : dg (s.extract a b) i ↔ dg s (a + i) := by
  unfold dg
  rw [bt_ext s a b i h]
theorem allD2 (s : ByteArray) (a : Nat) (hs : a + 2 ≤ s.size) : AllD (s.extract a (a + 2)) ↔ (dg s a ∧ dg s (a + 1)) := by
  unfold AllD
  have hz : (s.extract a (a + 2)).size = 2 := by rw [ext_size]; omega
  rw [hz]
  have e0 := bt_ext s a (a + 2) 0 (by omega)
  have e1 := bt_ext s a (a + 2) 1 (by omega)
  constructor
  · intro h
    have h0 := h 0 (by omega)
    have h1 := h 1 (by omega)
    rw [e0] at h0
    rw [e1] at h1
    exact ⟨h0, h1⟩
  · rintro ⟨h0, h1⟩ i hi
    have hc : i = 0 ∨ i = 1 := by omega
    rcases hc with rfl | rfl
    · rw [e0]; exact h0
    · rw [e1]; exact h1
theorem num2 (s : ByteArray) (a : Nat) (hs : a + 2 ≤ s.size) : num (s.extract a (a + 2)) (s.extract a (a + 2)).size = n2 s a := by
  have hz : (s.extract a (a + 2)).size = 2 := by rw [ext_size]; omega
  rw [hz]
  have e0 := bt_ext s a (a + 2) 0 (by omega)
  have e1 := bt_ext s a (a + 2) 1 (by omega)
  simp only [num, n2, e0, e1]
  simp
theorem allD4 (s : ByteArray) (hs : 4 ≤ s.size) : AllD (s.extract 0 4) ↔ (dg s 0 ∧ dg s 1 ∧ dg s 2 ∧ dg s 3) := by
  unfold AllD
  have hz : (s.extract 0 4).size = 4 := by rw [ext_size]; omega
  rw [hz]
  have e0 := bt_ext s 0 4 0 (by omega)
  have e1 := bt_ext s 0 4 1 (by omega)
  have e2 := bt_ext s 0 4 2 (by omega)
  have e3 := bt_ext s 0 4 3 (by omega)
  simp only [Nat.zero_add] at e0 e1 e2 e3
  constructor
  · intro h
    have h0 := h 0 (by omega)
    have h1 := h 1 (by omega)
    have h2 := h 2 (by omega)
    have h3 := h 3 (by omega)
    rw [e0] at h0
    rw [e1] at h1
    rw [e2] at h2
    rw [e3] at h3
    exact ⟨h0, h1, h2, h3⟩
  · rintro ⟨h0, h1, h2, h3⟩ i hi
    have hc : i = 0 ∨ i = 1 ∨ i = 2 ∨ i = 3 := by omega
    rcases hc with rfl | rfl | rfl | rfl
    · rw [e0]; exact h0
    · rw [e1]; exact h1
    · rw [e2]; exact h2
    · rw [e3]; exact h3
theorem num4 (s : ByteArray) (hs : 4 ≤ s.size) : num (s.extract 0 4) (s.extract 0 4).size = n4 s 0 := by
  have hz : (s.extract 0 4).size = 4 := by rw [ext_size]; omega
  rw [hz]
  have e0 := bt_ext s 0 4 0 (by omega)
  have e1 := bt_ext s 0 4 1 (by omega)
  have e2 := bt_ext s 0 4 2 (by omega)
  have e3 := bt_ext s 0 4 3 (by omega)
  simp only [Nat.zero_add] at e0 e1 e2 e3
  simp only [num, n4, e0, e1, e2, e3]
  simp
theorem n2_in {s : ByteArray} {a : Nat} (h : dg s a ∧ dg s (a + 1)) : 0 ≤ n2 s a ∧ n2 s a ≤ 99 := by
  unfold n2
  unfold dg at h
  omega
theorem n4_in {s : ByteArray} (h : dg s 0 ∧ dg s 1 ∧ dg s 2 ∧ dg s 3) : 0 ≤ n4 s 0 ∧ n4 s 0 ≤ 9999 := by
  unfold n4
  unfold dg at h
  simp only [Nat.zero_add]
  omega
/-- The forms, as the program asks for them. -/
theorem formed_iff (s : ByteArray) (K : Nat) (hK : K = min s.size 19) : Formed s ↔ (Fits (s.extract 0 K) F19 ∧ (s.extract K s.size = ⟨#[90]⟩ ∨ Fits (s.extract K s.size) FP ∨ Fits (s.extract K s.size) FM)) := by
  by_cases hs : s.size < 19
  · have hk : K = s.size := by omega
    constructor
    · rintro ⟨_, h | h⟩ <;> omega
    · rintro ⟨⟨h, _⟩, _⟩
      rw [ext_size, f19_size] at h
      omega
  · have hk : K = 19 := by omega
    subst hk
    have hz : (s.extract 0 19).size = 19 := by rw [ext_size]; omega
    have b0 : ∀ i, i < 19 → bt (s.extract 0 19) i = bt s i := fun i hi => by rw [bt_ext s 0 19 i (by omega), Nat.zero_add]
    have hd : D19 (s.extract 0 19) ↔ D19 s := by
      unfold D19 dg
      rw [b0 0 (by omega), b0 1 (by omega), b0 2 (by omega), b0 3 (by omega), b0 4 (by omega), b0 5 (by omega), b0 6 (by omega), b0 7 (by omega), b0 8 (by omega), b0 9 (by omega), b0 10 (by omega), b0 11 (by omega), b0 12 (by omega), b0 13 (by omega), b0 14 (by omega), b0 15 (by omega), b0 16 (by omega), b0 17 (by omega), b0 18 (by omega)]
    have hez : (s.extract 19 s.size).size = s.size - 19 := by rw [ext_size]; omega
    have b1 : ∀ i, 19 + i < s.size → bt (s.extract 19 s.size) i = bt s (19 + i) := fun i hi => bt_ext s 19 s.size i hi
    have hZ : s.extract 19 s.size = ⟨#[90]⟩ ↔ (s.size = 20 ∧ bt s 19 = 90) := by
      constructor
      · intro h
        have h1 : (s.extract 19 s.size).size = 1 := by rw [h]; rfl
        have h2 : s.size = 20 := by omega
        have h3 := b1 0 (by omega)
        rw [h] at h3
        exact ⟨h2, h3.symm⟩
      · rintro ⟨h1, h2⟩
        have h3 := b1 0 (by omega)
        rw [Nat.add_zero, h2] at h3
        apply WideShapes.bytes_inj
        have hl : (s.extract 19 s.size).data.toList.length = 1 := by
          have : (s.extract 19 s.size).size = 1 := by omega
          rw [Array.length_toList]
          exact this
        match hm : (s.extract 19 s.size).data.toList, hl with
        | [c], _ =>
          unfold bt at h3
          rw [hm] at h3
          have h4 : (c.toNat : Int) = 90 := h3
          have : c.toNat = 90 := by omega
          have : c = 90 := UInt8.toNat_inj.1 this
          rw [this]
    have hS : ∀ c, ((s.extract 19 s.size).size = 6 ∧ DSh c (s.extract 19 s.size)) ↔ (s.size = 25 ∧ bt s 19 = c ∧ (dg s 20 ∧ dg s 21) ∧ bt s 22 = 58 ∧ (dg s 23 ∧ dg s 24)) := by
      intro c
      rw [hez]
      constructor
      · rintro ⟨h1, h2⟩
        unfold DSh dg at h2
        rw [b1 0 (by omega), b1 1 (by omega), b1 2 (by omega), b1 3 (by omega), b1 4 (by omega), b1 5 (by omega)] at h2
        exact ⟨by omega, h2⟩
      · rintro ⟨h1, h2⟩
        refine ⟨by omega, ?_⟩
        unfold DSh dg
        rw [b1 0 (by omega), b1 1 (by omega), b1 2 (by omega), b1 3 (by omega), b1 4 (by omega), b1 5 (by omega)]
        exact h2
    rw [fits19 _ hz, hd, fitsP, fitsM, hZ, hS 43, hS 45]
    unfold Formed E25
    constructor
    · rintro ⟨h1, h2 | ⟨h2, h3 | h3, h4⟩⟩
      · exact ⟨h1, .inl h2⟩
      · exact ⟨h1, .inr (.inl ⟨h2, h3, h4⟩)⟩
      · exact ⟨h1, .inr (.inr ⟨h2, h3, h4⟩)⟩
    · rintro ⟨h1, h2 | ⟨h2, h3, h4⟩ | ⟨h2, h3, h4⟩⟩
      · exact ⟨h1, .inl h2⟩
      · exact ⟨h1, .inr ⟨h2, .inl h3, h4⟩⟩
      · exact ⟨h1, .inr ⟨h2, .inr h3, h4⟩⟩
open Go.Proofs
open Go.Abs.H
set_option linter.unusedVariables false
set_option linter.unusedSimpArgs false
set_option maxRecDepth 100000
set_option maxHeartbeats 4000000
theorem str_beq (a b : ByteArray) : (a.toList == b.toList) = decide (a = b) := by
  rw [Bool.eq_iff_iff, beq_iff_eq, decide_eq_true_eq, ByteArray.toList_eq, ByteArray.toList_eq]
  exact ⟨fun h => WideShapes.bytes_inj h, fun h => by rw [h]⟩
theorem goodP_ok (t : Mom) (h0 : 0 ≤ t.h) (h1 : 0 ≤ t.i) (h2 : 0 ≤ t.s) : goodP t = decide t.ok := by
  unfold goodP
  rw [Bool.eq_iff_iff, decide_eq_true_eq, decide_eq_true_eq]
  unfold Mom.ok Date.ok
  constructor
  · rintro ⟨a, b, c, d, e, f, g⟩
    exact ⟨⟨c, d⟩, h0, e, h1, f, h2, g⟩
  · rintro ⟨⟨c, d⟩, _, e, _, f, _, g⟩
    have := mdays_pos (y := t.x.y) (m := t.x.m) (by omega)
    exact ⟨this.2.2.1, this.2.2.2, c, d, e, f, g⟩
theorem Read_bad (s : ByteArray) (hs : s.size ≤ 1000000) (h : ¬ Formed s) : PCall Tryd.prog glob 45 [.v (.string s)] (.tup [iv 0, iv 2]) := by
  refine PCall.of ctx.nr nrs (NR.t2 _ _) ?_
  refine lcall45 (by simp) 0 (Nat.le_refl _) ?_
  unfold lc45
  simp only [List.length_cons, List.length_nil, Nat.reduceAdd, Nat.reduceSub, List.replicate_succ, List.replicate_zero, List.cons_append, List.nil_append]
  obtain ⟨K, hK⟩ : ∃ K, min s.size 19 = K := ⟨_, rfl⟩
  have hf := mt (formed_iff s K hK.symm).2 h
  have hif : (if (s.size : Int) < 19 then (s.size : Int) else 19) = (K : Int) := by
    split <;> omega
  have hif2 : (if (19 : Int) < (s.size : Int) then (19 : Int) else (s.size : Int)) = (K : Int) := by
    split <;> omega
  have hz0 : (s.extract 0 K).size ≤ 1000000 := by rw [ext_size]; omega
  have hz1 : (s.extract K s.size).size ≤ 1000000 := by rw [ext_size]; omega
  have f0 := fits_p (s.extract 0 K) F19 hz0 (by decide)
  have f1 := fits_p (s.extract K s.size) FP hz1 (by decide)
  have f2 := fits_p (s.extract K s.size) FM hz1 (by decide)
  obtain ⟨B, hB⟩ : ∃ B, s.extract 0 K = B := ⟨_, rfl⟩
  obtain ⟨E, hE⟩ : ∃ E, s.extract K s.size = E := ⟨_, rfl⟩
  rw [hB] at f0 hf
  rw [hE] at f1 f2 hf
  by_cases g0 : Fits B F19
  · rw [decide_eq_true g0] at f0
    have g1 : ¬ (E = ⟨#[90]⟩) := fun e => hf ⟨g0, .inl e⟩
    have g2 : ¬ Fits E FP := fun e => hf ⟨g0, .inr (.inl e)⟩
    have g3 : ¬ Fits E FM := fun e => hf ⟨g0, .inr (.inr e)⟩
    rw [decide_eq_false g2] at f1
    rw [decide_eq_false g3] at f2
    have q : (E.toList == (⟨#[90]⟩ : ByteArray).toList) = false := by rw [str_beq, decide_eq_false g1]
    repeat (first
      | (with_reducible refine lops_step fun K hK => ?_; simp (disch := first | exact dch | fail) only [go_sem, Nat.reduceAdd, Nat.reduceSub, reduceIte, Nat.reduceEqDiff, Int.reduceToNat, Int.reduceBEq, Int.reduceBNe, hif, hif2, hB, hE, q]; (try (first | (refine And.intro (fun _ => ?_) (fun h => absurd h (by decide))) | (refine And.intro (fun h => absurd h (by decide)) (fun _ => ?_)))); (repeat (with_reducible refine And.intro acl ?_)); (first | (refine hK _ _ ?_) | (refine ⟨_, rfl, hK _ _ ?_⟩) | (refine Or.inl (hK _ _ ?_)) | (refine ⟨_, _, Or.inl (f0.go _), (by first | exact ⟨[], (List.append_nil _).symm⟩ | exact ⟨_, rfl⟩), hK _ _ ?_⟩) | (refine ⟨_, _, Or.inl (f0.go _), hK _ _ ?_⟩) | (refine ⟨_, _, Or.inl (f0.go _).weakQ, hK _ _ ?_⟩) | (refine ⟨_, _, Or.inl (f1.go _), (by first | exact ⟨[], (List.append_nil _).symm⟩ | exact ⟨_, rfl⟩), hK _ _ ?_⟩) | (refine ⟨_, _, Or.inl (f1.go _), hK _ _ ?_⟩) | (refine ⟨_, _, Or.inl (f1.go _).weakQ, hK _ _ ?_⟩) | (refine ⟨_, _, Or.inl (f2.go _), (by first | exact ⟨[], (List.append_nil _).symm⟩ | exact ⟨_, rfl⟩), hK _ _ ?_⟩) | (refine ⟨_, _, Or.inl (f2.go _), hK _ _ ?_⟩) | (refine ⟨_, _, Or.inl (f2.go _).weakQ, hK _ _ ?_⟩)); clear hK K)
      | (with_reducible refine lops_nil ?_)
      | (with_reducible first | refine lavc_reg ?_ | refine lavc_seq ?_ | refine lavc_block ?_ | refine lavc_skip ?_ | refine lavc_exit ?_ | refine lavc_ret ?_ | refine lavcR_round ?_)
      | (refine lavc_cond rfl (fun _ => ?_) (fun hc => absurd hc (by decide)))
      | (refine lavc_cond rfl (fun hc => absurd hc (by decide)) (fun _ => ?_))
      | (simp only [↓reduceIte, Nat.reduceEqDiff, reduceCtorEq]))
    refine And.intro (by simp) ?_
    simp (disch := first | exact dch | fail) only [go_sem, Nat.reduceAdd, Nat.reduceSub, reduceIte, Nat.reduceEqDiff, Int.reduceToNat, Int.reduceBEq, Int.reduceBNe, aret, aretL, aret1, aenv]
    (repeat (with_reducible refine And.intro acl ?_))
    exact end0 (NR.t2 _ _) rfl
  · rw [decide_eq_false g0] at f0
    repeat (first
      | (with_reducible refine lops_step fun K hK => ?_; simp (disch := first | exact dch | fail) only [go_sem, Nat.reduceAdd, Nat.reduceSub, reduceIte, Nat.reduceEqDiff, Int.reduceToNat, Int.reduceBEq, Int.reduceBNe, hif, hif2, hB, hE]; (try (first | (refine And.intro (fun _ => ?_) (fun h => absurd h (by decide))) | (refine And.intro (fun h => absurd h (by decide)) (fun _ => ?_)))); (repeat (with_reducible refine And.intro acl ?_)); (first | (refine hK _ _ ?_) | (refine ⟨_, rfl, hK _ _ ?_⟩) | (refine Or.inl (hK _ _ ?_)) | (refine ⟨_, _, Or.inl (f0.go _), (by first | exact ⟨[], (List.append_nil _).symm⟩ | exact ⟨_, rfl⟩), hK _ _ ?_⟩) | (refine ⟨_, _, Or.inl (f0.go _), hK _ _ ?_⟩) | (refine ⟨_, _, Or.inl (f0.go _).weakQ, hK _ _ ?_⟩)); clear hK K)
      | (with_reducible refine lops_nil ?_)
      | (with_reducible first | refine lavc_reg ?_ | refine lavc_seq ?_ | refine lavc_block ?_ | refine lavc_skip ?_ | refine lavc_exit ?_ | refine lavc_ret ?_ | refine lavcR_round ?_)
      | (refine lavc_cond rfl (fun _ => ?_) (fun hc => absurd hc (by decide)))
      | (refine lavc_cond rfl (fun hc => absurd hc (by decide)) (fun _ => ?_))
      | (simp only [↓reduceIte, Nat.reduceEqDiff, reduceCtorEq]))
    refine And.intro (by simp) ?_
    simp (disch := first | exact dch | fail) only [go_sem, Nat.reduceAdd, Nat.reduceSub, reduceIte, Nat.reduceEqDiff, Int.reduceToNat, Int.reduceBEq, Int.reduceBNe, aret, aretL, aret1, aenv]
    (repeat (with_reducible refine And.intro acl ?_))
    exact end0 (NR.t2 _ _) rfl
open Go.Proofs
open Go.Abs.H
set_option linter.unusedVariables false
set_option linter.unusedSimpArgs false
set_option maxRecDepth 100000
set_option maxHeartbeats 4000000
def ltI : List Int → List Int → Prop
  | _, [] => False
  | [], _ :: _ => True
  | a :: x, b :: y => a < b ∨ (a = b ∧ ltI x y)
theorem ltI_irr : ∀ x, ¬ ltI x x
  | [], h => h
  | a :: x, h => by
    rcases h with h | ⟨_, h⟩
    · omega
    · exact ltI_irr x h
theorem ltI_asym : ∀ {x y}, ltI x y → ¬ ltI y x
  | x, [], h, _ => by cases x <;> exact h.elim
  | [], _ :: _, _, h => h.elim
  | a :: x, b :: y, h, g => by
    rcases h with h | ⟨h1, h2⟩ <;> rcases g with g | ⟨g1, g2⟩
    · omega
    · omega
    · omega
    · exact ltI_asym h2 g2
theorem ltI_app (p x y : List Int) : ltI (p ++ x) (p ++ y) ↔ ltI x y := by
  induction p with
  | nil => exact Iff.rfl
  | cons a p ih =>
    show (a < a ∨ (a = a ∧ ltI (p ++ x) (p ++ y))) ↔ _
    rw [ih]
    constructor
    · rintro (h | ⟨_, h⟩)
      · omega
      · exact h
    · exact fun h => .inr ⟨rfl, h⟩
abbrev By0 (l : List Int) : Prop := ∀ x ∈ l, 0 ≤ x ∧ x ≤ 255
theorem less_iff : ∀ {l m : List Int}, By0 l → By0 m → (Op.bytesLess (l.map fun n => UInt8.ofNat n.toNat) (m.map fun n => UInt8.ofNat n.toNat) = true ↔ ltI l m)
  | [], [], _, _ => by simp [Op.bytesLess, ltI]
  | _ :: _, [], _, _ => by simp [Op.bytesLess, ltI]
  | [], _ :: _, _, _ => by simp [Op.bytesLess, ltI]
  | a :: x, b :: y, hl, hm => by
    have ih := less_iff (l := x) (m := y) (fun z hz => hl z (List.mem_cons_of_mem _ hz)) (fun z hz => hm z (List.mem_cons_of_mem _ hz))
    have ha := hl a List.mem_cons_self
    have hb := hm b List.mem_cons_self
    have e1 : (UInt8.ofNat a.toNat < UInt8.ofNat b.toNat) ↔ a < b := by
      rw [UInt8.lt_iff_toNat_lt]
      simp only [UInt8.toNat_ofNat']
      omega
    have e2 : (UInt8.ofNat a.toNat = UInt8.ofNat b.toNat) ↔ a = b := by
      rw [← UInt8.toNat_inj]
      simp only [UInt8.toNat_ofNat']
      omega
    simp only [List.map_cons, Op.bytesLess, ltI, Bool.or_eq_true, Bool.and_eq_true, decide_eq_true_eq, beq_iff_eq, e1, e2, ih]
theorem str_less {l m : List Int} (hl : By0 l) (hm : By0 m) : Op.bytesLess (strOf l).toList (strOf m).toList = true ↔ ltI l m := by
  rw [str_list, str_list]
  exact less_iff hl hm
theorem ext_strOf (l : List Int) (a b : Nat) : (strOf l).extract a b = strOf ((l.take b).drop a) := by
  apply WideShapes.bytes_inj
  rw [Go.Abs.C.ext_list]
  simp [strOf, List.map_take, List.map_drop]
theorem bt_str {l : List Int} (hl : By0 l) (i : Nat) (h : i < l.length) : bt (strOf l) i = l.getD i 0 := by
  unfold bt strOf
  have hx := hl _ (List.getElem_mem h)
  simp only [List.getD_eq_getElem?_getD, List.getElem?_map, List.getElem?_eq_getElem h, Option.map_some, Option.getD_some]
  simp only [UInt8.toNat_ofNat']
  omega
abbrev c48 (n : Nat) : Int := ((48 + n % 10 : Nat) : Int)
/-- A moment's text, byte by byte. -/
theorem txt_list (t : Mom) : txt t = [c48 (t.x.y.toNat / 1000), c48 (t.x.y.toNat / 100), c48 (t.x.y.toNat / 10), c48 t.x.y.toNat, 45, c48 (t.x.m.toNat / 10), c48 t.x.m.toNat, 45, c48 (t.x.d.toNat / 10), c48 t.x.d.toNat, 84, c48 (t.h.toNat / 10), c48 t.h.toNat, 58, c48 (t.i.toNat / 10), c48 t.i.toNat, 58, c48 (t.s.toNat / 10), c48 t.s.toNat, 90] := by
  unfold txt
  simp only [digs2, digs4]
  rfl
theorem c48_in (n : Nat) : 0 ≤ c48 n ∧ c48 n ≤ 255 := by
  unfold c48
  omega
theorem txt_by (t : Mom) : By0 (txt t) := by
  rw [txt_list]
  intro x hx
  simp only [List.mem_cons, List.not_mem_nil, or_false] at hx
  rcases hx with rfl | rfl | rfl | rfl | rfl | rfl | rfl | rfl | rfl | rfl | rfl | rfl | rfl | rfl | rfl | rfl | rfl | rfl | rfl | rfl <;> first | exact c48_in _ | decide
theorem txt_length (t : Mom) : (txt t).length = 20 := by rw [txt_list]; rfl
/-- One moment ahead of another. -/
def lexLt (a b : Mom) : Prop := a.x.y < b.x.y ∨ (a.x.y = b.x.y ∧ (a.x.m < b.x.m ∨ (a.x.m = b.x.m ∧ (a.x.d < b.x.d ∨ (a.x.d = b.x.d ∧ (a.h < b.h ∨ (a.h = b.h ∧ (a.i < b.i ∨ (a.i = b.i ∧ a.s < b.s)))))))))
theorem lex_secs {a b : Mom} (ha : a.ok) (hb : b.ok) (h : lexLt a b) : secs a < secs b := by
  rcases h with h | ⟨h1, h | ⟨h2, h | ⟨h3, h⟩⟩⟩
  · exact secs_lt ha hb (.inl (day_lt ha.1 hb.1 (.inl h)))
  · exact secs_lt ha hb (.inl (day_lt ha.1 hb.1 (.inr ⟨h1, .inl h⟩)))
  · exact secs_lt ha hb (.inl (day_lt ha.1 hb.1 (.inr ⟨h1, .inr ⟨h2, h⟩⟩)))
  · refine secs_lt ha hb (.inr ⟨?_, h⟩)
    unfold dayN
    rw [h1, h2, h3]
theorem lex_tri (a b : Mom) : lexLt a b ∨ a = b ∨ lexLt b a := by
  obtain ⟨⟨y, m, d⟩, h, i, s⟩ := a
  obtain ⟨⟨y', m', d'⟩, h', i', s'⟩ := b
  unfold lexLt
  simp only [Mom.mk.injEq, Date.mk.injEq]
  omega
theorem dig_lt {a b : Int} (x y : List Int) (ha : 0 ≤ a) (h : a < b) (hb : b < 100) : ltI (digs a.toNat 2 ++ x) (digs b.toNat 2 ++ y) := by
  simp only [digs2, List.cons_append, List.nil_append, ltI]
  omega
theorem dig_lt4 {a b : Int} (x y : List Int) (ha : 0 ≤ a) (h : a < b) (hb : b < 10000) : ltI (digs a.toNat 4 ++ x) (digs b.toNat 4 ++ y) := by
  simp only [digs4, List.cons_append, List.nil_append, ltI]
  obtain ⟨n, rfl⟩ := Int.eq_ofNat_of_zero_le ha
  obtain ⟨m, rfl⟩ := Int.eq_ofNat_of_zero_le (show 0 ≤ b by omega)
  simp only [Int.toNat_natCast]
  have g0 : n / 1000 % 10 = n / 1000 := by omega
  have g1 : m / 1000 % 10 = m / 1000 := by omega
  rw [g0, g1]
  by_cases h1 : n / 1000 < m / 1000
  · exact .inl (by omega)
  have h1' : n / 1000 = m / 1000 := by omega
  refine .inr ⟨by rw [h1'], ?_⟩
  by_cases h2 : n / 100 < m / 100
  · exact .inl (by omega)
  have h2' : n / 100 = m / 100 := by omega
  refine .inr ⟨by rw [h2'], ?_⟩
  by_cases h3 : n / 10 < m / 10
  · exact .inl (by omega)
  have h3' : n / 10 = m / 10 := by omega
  refine .inr ⟨by rw [h3'], .inl (by omega)⟩
theorem ltI_cons (c : Int) (x y : List Int) : ltI (c :: x) (c :: y) ↔ ltI x y := ltI_app [c] x y
theorem lex_txt {a b : Mom} (ha : a.ok) (hb : b.ok) (h : lexLt a b) : ltI (txt a) (txt b) := by
  have aa := ha.1.all
  have ab := hb.1.all
  have a2 := ha.2
  have b2 := hb.2
  unfold txt
  simp only [List.append_assoc, List.cons_append]
  rcases h with h | ⟨h1, h | ⟨h2, h | ⟨h3, h | ⟨h4, h | ⟨h5, h⟩⟩⟩⟩⟩
  · exact dig_lt4 _ _ (by omega) h (by omega)
  · rw [h1, ltI_app, ltI_cons]
    exact dig_lt _ _ (by omega) h (by omega)
  · rw [h1, h2, ltI_app, ltI_cons, ltI_app, ltI_cons]
    exact dig_lt _ _ (by omega) h (by omega)
  · rw [h1, h2, h3, ltI_app, ltI_cons, ltI_app, ltI_cons, ltI_app, ltI_cons]
    exact dig_lt _ _ (by omega) h (by omega)
  · rw [h1, h2, h3, h4, ltI_app, ltI_cons, ltI_app, ltI_cons, ltI_app, ltI_cons, ltI_app, ltI_cons]
    exact dig_lt _ _ (by omega) h (by omega)
  · rw [h1, h2, h3, h4, h5, ltI_app, ltI_cons, ltI_app, ltI_cons, ltI_app, ltI_cons, ltI_app, ltI_cons, ltI_app, ltI_cons]
    exact dig_lt _ _ (by omega) h (by omega)
theorem secs_txt {a b : Mom} (ha : a.ok) (hb : b.ok) : secs a < secs b ↔ ltI (txt a) (txt b) := by
  constructor
  · intro h
    rcases lex_tri a b with g | rfl | g
    · exact lex_txt ha hb g
    · omega
    · have := lex_secs hb ha g
      omega
  · intro h
    rcases lex_tri a b with g | rfl | g
    · exact lex_secs ha hb g
    · exact absurd h (ltI_irr _)
    · exact absurd h (ltI_asym (lex_txt hb ha g))
theorem txt_less {a b : Mom} (ha : a.ok) (hb : b.ok) : Op.bytesLess (strOf (txt a)).toList (strOf (txt b)).toList = decide (secs a < secs b) := by
  rw [Bool.eq_iff_iff, decide_eq_true_eq, str_less (txt_by a) (txt_by b), secs_txt ha hb]
theorem txt_inj {a b : Mom} (ha : a.ok) (hb : b.ok) : strOf (txt a) = strOf (txt b) ↔ secs a = secs b := by
  constructor
  · intro h
    have h := str_inj (txt_by a) (txt_by b) h
    rcases lex_tri a b with g | rfl | g
    · have := lex_txt ha hb g
      rw [h] at this
      exact absurd this (ltI_irr _)
    · rfl
    · have := lex_txt hb ha g
      rw [h] at this
      exact absurd this (ltI_irr _)
  · intro h
    rw [secs_inj ha hb h]
/-- A moment's text is read as it. -/
theorem bt_txt (t : Mom) (i : Nat) (h : i < 20) : bt (strOf (txt t)) i = (txt t).getD i 0 := bt_str (txt_by t) i (by rw [txt_length]; exact h)
end Go.Abs.S
