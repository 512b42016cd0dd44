/- utf8.ValidString. -/
import Derived.Test.YtgmchiadphdlhaaDoorCodC
import Derived.Test.YtgmchiadphdlhaaDoorAbsJoin
namespace Go.Abs.S
attribute [local go_sem] lguard aopO aop nxL aenv toAV tput aLoad aStore vcells aBin aNilI aUn aAlloc aBox aBuild aBSlice afill aConv isIntT aappZ aCap aArr aMM aMake aSlice bnd3 bnd aFldAddr aFld aIdxAddr aIdx aExt aLen aCopy aEq0 bAV aUb aapp aappQ agh acont List.getD_cons_zero List.getD_cons_succ List.set_cons_zero List.set_cons_succ List.getElem?_cons_zero List.getElem?_cons_succ List.length_cons List.length_nil List.map_cons List.map_nil ints_length if_true if_false Bool.false_eq_true true_and and_true eq_self ne_eq not_false_eq_true not_true_eq_false beq_self_eq_true Nat.zero_add Nat.add_zero Nat.mul_one Nat.zero_mul Int.toNat_natCast List.toList_toArray List.all_cons List.all_nil AV.one Value.oneCell' Bool.and_true Bool.true_and forall_const true_implies false_implies implies_true Option.map_some Option.map_none Option.isSome_some Option.isSome_none imp_self rdP_flat rdP_row splice_one ints_set ints_get List.append_nil List.cons_append List.nil_append List.getElem?_toArray List.drop_zero ints_drop ints_take List.take_of_length_le splice_all ints_one Option.some.injEq Option.getD_some List.length_replicate zArr List.map_replicate rep_ints splice_intsR List.length_set List.length_append List.flatten_replicate_singleton rep_slice rep_string rep_bool rep_iface List.replicate_zero if_pos if_neg List.mapM_cons List.mapM_nil Option.pure_def Option.bind_eq_bind Option.bind_some Bool.true_eq_false Bool.not_false Bool.not_true get_concat set_concat
open Go.Proofs
set_option linter.unusedVariables false
set_option linter.unusedSimpArgs false
set_option maxRecDepth 100000
set_option maxHeartbeats 8000000
/-- A text's byte. -/
def bq (s : ByteArray) (i : Nat) : Int := ((s.data.toList.getD i 0).toNat : Int)
theorem bq_byte (s : ByteArray) (i : Nat) : 0 ≤ bq s i ∧ bq s i ≤ 255 := by
  unfold bq
  have := (s.data.toList.getD i 0).toNat_lt
  omega
def wb (t : ByteArray) (k : Nat) : Int := IntKind.u64.wrap ((t.data.toList.getD k 0).toNat : Int)
/-- Eight bytes as a number. -/
def wordP (t : ByteArray) : Int :=
  ibits .or .u64 (ibits .or .u64 (ibits .or .u64 (ibits .or .u64 (ibits .or .u64 (ibits .or .u64 (ibits .or .u64 (wb t 0) (shlI .u64 (wb t 1) 8)) (shlI .u64 (wb t 2) 16)) (shlI .u64 (wb t 3) 24)) (shlI .u64 (wb t 4) 32)) (shlI .u64 (wb t 5) 40)) (shlI .u64 (wb t 6) 48)) (shlI .u64 (wb t 7) 56)
theorem word_p (t : ByteArray) (h : 8 ≤ t.size) : PCall Tryd.prog glob 69 [.v (.string t)] (.v (.int .u64 (wordP t))) := by
  refine PCall.of ctx.nr nrs (NR.v _) ?_
  refine lcall69 (by simp) 0 (Nat.le_refl _) ?_
  unfold lc69
  simp only [List.length_cons, List.length_nil, Nat.reduceAdd, Nat.reduceSub, List.replicate_succ, List.replicate_zero, List.cons_append, List.nil_append]
  repeat (first
    | (with_reducible refine lops_step fun K hK => ?_; simp (disch := first | exact dch | fail) only [go_sem, Nat.reduceAdd, Nat.reduceSub, reduceIte, Nat.reduceEqDiff, Int.reduceToNat, Int.reduceBEq, Int.reduceBNe]; (try (first | (refine And.intro (fun _ => ?_) (fun h => absurd h (by decide))) | (refine And.intro (fun h => absurd h (by decide)) (fun _ => ?_)))); (repeat (with_reducible refine And.intro acl ?_)); (first | (refine hK _ _ ?_) | (refine ⟨_, rfl, hK _ _ ?_⟩) | (refine Or.inl (hK _ _ ?_))); clear hK K)
    | (with_reducible refine lops_nil ?_)
    | (with_reducible first | refine lavc_reg ?_ | refine lavc_seq ?_ | refine lavc_block ?_ | refine lavc_skip ?_ | refine lavc_exit ?_ | refine lavc_ret ?_ | refine lavcR_round ?_)
    | (refine lavc_cond rfl (fun _ => ?_) (fun hc => absurd hc (by decide)))
    | (refine lavc_cond rfl (fun hc => absurd hc (by decide)) (fun _ => ?_))
    | (simp only [↓reduceIte, Nat.reduceEqDiff, reduceCtorEq]))
  refine And.intro (by simp) ?_
  simp (disch := first | exact dch | fail) only [go_sem, Nat.reduceAdd, Nat.reduceSub, reduceIte, Nat.reduceEqDiff, Int.reduceToNat, Int.reduceBEq, Int.reduceBNe, aret, aretL, aret1, aenv]
  (repeat (with_reducible refine And.intro acl ?_))
  exact end0 (NR.v _) rfl
/-- The rest behind so many bytes. -/
abbrev rst (t : ByteArray) (n : Nat) : ByteArray := t.extract n t.size
theorem rst_size (t : ByteArray) (n : Nat) : (rst t n).size = t.size - n := by simp
def c8 (t : ByteArray) : Bool := ibits .and .u64 (wordP t) 9259542123273814144 == 0
def c16 (t : ByteArray) : Bool := ibits .and .u64 (ibits .or .u64 (wordP t) (wordP (rst t 8))) 9259542123273814144 == 0
def c32 (t : ByteArray) : Bool := ibits .and .u64 (ibits .or .u64 (ibits .or .u64 (wordP t) (wordP (rst t 8))) (ibits .or .u64 (wordP (rst t 16)) (wordP (rst t 24)))) 9259542123273814144 == 0
def skipL : Nat → ByteArray → ByteArray
  | 0, t => t
  | k + 1, t => if 32 < t.size ∧ c32 t = true then skipL k (rst t 32) else t
def skipB (t : ByteArray) : ByteArray := if 16 < t.size ∧ c16 t = true then skipL t.size (rst t 16) else t
def skipA (t : ByteArray) : ByteArray := if 8 < t.size ∧ c8 t = true then skipB (rst t 8) else t
theorem skipL_size : ∀ (k : Nat) (t : ByteArray), (skipL k t).size ≤ t.size
  | 0, t => Nat.le_refl _
  | k + 1, t => by
    unfold skipL
    split
    · have := skipL_size k (rst t 32)
      rw [rst_size] at this
      omega
    · exact Nat.le_refl _
theorem skipA_size (t : ByteArray) : (skipA t).size ≤ t.size := by
  unfold skipA
  split
  · unfold skipB
    have h := rst_size t 8
    split
    · have := skipL_size (rst t 8).size (rst (rst t 8) 16)
      have h2 := rst_size (rst t 8) 16
      omega
    · omega
  · exact Nat.le_refl _
/-- What the first byte tells: how many there are, and between which the second one lies. -/
def fstB (t : ByteArray) : Int := lay_unicode_utf8_first.getD (bq t 0).toNat 0
def cntB (t : ByteArray) : Int := IntKind.i64.wrap (ibits .and .u8 (fstB t) 7)
def loB (t : ByteArray) : Int := lay_unicode_utf8_acceptRanges.getD ((fstB t).toNat / 16 * 2) 0
def hiB (t : ByteArray) : Int := lay_unicode_utf8_acceptRanges.getD ((fstB t).toNat / 16 * 2 + 1) 0
def stepN (t : ByteArray) : Option Nat :=
  if cntB t = 2 then (if t.size < 2 ∨ bq t 1 < loB t ∨ hiB t < bq t 1 then none else some 2)
  else if cntB t = 3 then (if t.size < 3 ∨ bq t 1 < loB t ∨ hiB t < bq t 1 ∨ bq t 2 < 128 ∨ 191 < bq t 2 then none else some 3)
  else if cntB t = 4 then (if t.size < 4 ∨ bq t 1 < loB t ∨ hiB t < bq t 1 ∨ bq t 2 < 128 ∨ 191 < bq t 2 ∨ bq t 3 < 128 ∨ 191 < bq t 3 then none else some 4)
  else none
def vsF : Nat → ByteArray → Bool
  | 0, _ => true
  | k + 1, t => if t.size = 0 then true else if bq t 0 < 128 then vsF k (skipA (rst t 1)) else match stepN t with
    | none => false
    | some n => vsF k (rst t n)
/-- Is a text UTF-8? -/
def validP (s : ByteArray) : Bool := vsF (s.size + 1) s
theorem vsF_end (k : Nat) (t : ByteArray) (h : t.size = 0) : vsF (k + 1) t = true := by
  unfold vsF
  rw [if_pos h]
theorem vsF_ascii (k : Nat) (t : ByteArray) (h : 0 < t.size) (h2 : bq t 0 < 128) : vsF (k + 1) t = vsF k (skipA (rst t 1)) := by
  rw [vsF, if_neg (by omega), if_pos h2]
theorem vsF_bad (k : Nat) (t : ByteArray) (h : 0 < t.size) (h2 : ¬ bq t 0 < 128) (h3 : stepN t = none) : vsF (k + 1) t = false := by
  rw [vsF, if_neg (by omega), if_neg h2, h3]
theorem vsF_some (k n : Nat) (t : ByteArray) (h : 0 < t.size) (h2 : ¬ bq t 0 < 128) (h3 : stepN t = some n) : vsF (k + 1) t = vsF k (rst t n) := by
  rw [vsF, if_neg (by omega), if_neg h2, h3]
theorem first_in : ∀ b : Nat, b < 256 → 0 ≤ lay_unicode_utf8_first.getD b 0 ∧ lay_unicode_utf8_first.getD b 0 ≤ 255 := by decide +kernel
theorem acc_in : ∀ p : Nat, p < 16 → (lay_unicode_utf8_acceptRanges.drop (p * 2)).take 2 = [lay_unicode_utf8_acceptRanges.getD (p * 2) 0, lay_unicode_utf8_acceptRanges.getD (p * 2 + 1) 0] := by decide +kernel
theorem valid_p (s : ByteArray) (hs : s.size ≤ 1000000) : PCall Tryd.prog glob 54 [.v (.string s)] (.v (.bool (validP s))) := by
  obtain ⟨V, hV⟩ : ∃ V, validP s = V := ⟨_, rfl⟩
  rw [hV]
  refine PCall.of ctx.nr nrs (NR.v _) ?_
  refine lcall54 (by simp) 0 (Nat.le_refl _) ?_
  unfold lc54
  simp only [List.length_cons, List.length_nil, Nat.reduceAdd, Nat.reduceSub, List.replicate_succ, List.replicate_zero, List.cons_append, List.nil_append]
  repeat (first
    | (with_reducible refine lops_step fun K hK => ?_; simp (disch := first | exact dch | fail) only [go_sem, Nat.reduceAdd, Nat.reduceSub, reduceIte, Nat.reduceEqDiff, Int.reduceToNat, Int.reduceBEq, Int.reduceBNe]; (try (first | (refine And.intro (fun _ => ?_) (fun h => absurd h (by decide))) | (refine And.intro (fun h => absurd h (by decide)) (fun _ => ?_)))); (repeat (with_reducible refine And.intro acl ?_)); (first | (refine hK _ _ ?_) | (refine ⟨_, rfl, hK _ _ ?_⟩) | (refine Or.inl (hK _ _ ?_))); clear hK K)
    | (with_reducible refine lops_nil ?_)
    | (with_reducible first | refine lavc_reg ?_ | refine lavc_seq ?_ | refine lavc_block ?_ | refine lavc_skip ?_ | refine lavc_exit ?_ | refine lavc_ret ?_ | refine lavcR_round ?_)
    | (refine lavc_cond rfl (fun _ => ?_) (fun hc => absurd hc (by decide)))
    | (refine lavc_cond rfl (fun hc => absurd hc (by decide)) (fun _ => ?_))
    | (simp only [↓reduceIte, Nat.reduceEqDiff, reduceCtorEq]))
  refine lavc_loopM ms54_0 (fun m (x : Nat × ByteArray × AHeap) => m = x.1 ∧ x.2.1.size < x.1 ∧ x.2.1.size ≤ 1000000 ∧ vsF x.1 x.2.1 = V) (fun x => [(0, .v (.string x.2.1))]) (fun x => x.2.2) (s.size + 1) (s.size + 1, s, []) ⟨rfl, Nat.lt_succ_self _, hs, hV⟩ ?_ rfl ?_
  · simp only [ms54_0, putAll, blank, List.foldl_cons, List.foldl_nil, List.set_cons_succ, List.set_cons_zero, List.cons_append, List.nil_append, ALe, true_or, or_true, and_true, true_and, eq_self, reduceCtorEq, false_or]
  rintro m ⟨k, t, gg⟩ ⟨hmk, hlt, hts, hinv⟩
  simp only at hmk hlt hts hinv ⊢
  simp only [ms54_0, putAll, blank, List.foldl_cons, List.foldl_nil, List.set_cons_succ, List.set_cons_zero, List.cons_append, List.nil_append]
  obtain ⟨k, rfl⟩ : ∃ k', k = k' + 1 := ⟨k - 1, by omega⟩
  repeat (first
    | (with_reducible refine lops_step fun K hK => ?_; simp (disch := first | exact dch | fail) only [go_sem, Nat.reduceAdd, Nat.reduceSub, reduceIte, Nat.reduceEqDiff, Int.reduceToNat, Int.reduceBEq, Int.reduceBNe]; (repeat (with_reducible refine And.intro acl ?_)); (first | (refine hK _ _ ?_) | (refine ⟨_, rfl, hK _ _ ?_⟩) | (refine Or.inl (hK _ _ ?_))); clear hK K)
    | (with_reducible refine lops_nil ?_)
    | (with_reducible first | refine lavc_reg ?_ | refine lavc_seq ?_ | refine lavc_block ?_ | refine lavc_skip ?_ | refine lavc_exit ?_ | refine lavc_ret ?_ | refine lavcR_round ?_)
    | (simp only [↓reduceIte, Nat.reduceEqDiff, reduceCtorEq]))
  refine lavc_cond rfl (fun hc => ?_) (fun hc => ?_) <;> try simp only [decide_eq_true_eq, decide_eq_false_iff_not, Int.not_lt, Int.not_le, beq_iff_eq, bne_iff_ne, bne_eq_false_iff_eq, beq_eq_false_iff_ne, ne_eq, Bool.not_eq_true', Bool.not_eq_false'] at hc
  · have hb := bq_byte t 0
    have ht0 : 0 < t.size := by omega
    obtain ⟨b, hb0⟩ : ∃ b, bq t 0 = b := ⟨_, rfl⟩
    have hsb : ((t.data.toList.getD 0 0).toNat : Int) = b := hb0
    rw [hb0] at hb
    by_cases h128 : b < 128
    · have q1 : decide (b < 128) = true := by rw [decide_eq_true_eq]; omega
      rw [vsF_ascii k t ht0 (by rw [hb0]; exact h128)] at hinv
      have hus := rst_size t 1
      obtain ⟨u, hu⟩ : ∃ u, t.extract 1 t.size = u := ⟨_, rfl⟩
      have hu' : rst t 1 = u := hu
      rw [hu'] at hus hinv
      have hsk := skipA_size u
      have next : ∀ v, skipA u = v → v.size < k ∧ v.size ≤ 1000000 ∧ vsF k v = V := fun v hv => by
        rw [hv] at hsk hinv
        exact ⟨by omega, by omega, hinv⟩
      have w8 := fun h => word_p u h
      by_cases g8 : 8 < u.size
      · have d8 : decide ((u.size : Int) > 8) = true := by rw [decide_eq_true_eq]; omega
        have w8 := w8 (by omega)
        by_cases k8 : c8 u = true
        · have e8 : (ibits .and .u64 (wordP u) 9259542123273814144 == 0) = true := k8
          have hu2s := rst_size u 8
          obtain ⟨u2, hu2⟩ : ∃ u2, u.extract 8 u.size = u2 := ⟨_, rfl⟩
          have hu2' : rst u 8 = u2 := hu2
          rw [hu2'] at hu2s
          have hA : skipA u = skipB u2 := by unfold skipA; rw [if_pos ⟨g8, k8⟩, hu2']
          by_cases g16 : 16 < u2.size
          · have d16 : decide ((u2.size : Int) > 16) = true := by rw [decide_eq_true_eq]; omega
            have w16 := word_p u2 (by omega)
            have hu3s := rst_size u2 8
            have w17 := word_p (u2.extract 8 u2.size) (by rw [hu3s]; omega)
            by_cases k16 : c16 u2 = true
            · have e16 : (ibits .and .u64 (ibits .or .u64 (wordP u2) (wordP (u2.extract 8 u2.size))) 9259542123273814144 == 0) = true := k16
              have hB : skipB u2 = skipL u2.size (rst u2 16) := by unfold skipB; rw [if_pos ⟨g16, k16⟩]
              have hu4s := rst_size u2 16
              obtain ⟨u4, hu4⟩ : ∃ x, u2.extract 16 u2.size = x := ⟨_, rfl⟩
              have hu4' : rst u2 16 = u4 := hu4
              rw [hu4'] at hu4s hB
              repeat (first
                | (with_reducible refine lops_step fun K hK => ?_; simp (disch := first | exact dch | fail) only [go_sem, Nat.reduceAdd, Nat.reduceSub, reduceIte, Nat.reduceEqDiff, Int.reduceToNat, Int.reduceBEq, Int.reduceBNe, hsb, q1, hu, d8, e8, hu2, d16, e16, hu4]; (try (first | (refine And.intro (fun _ => ?_) (fun h => absurd h (by decide))) | (refine And.intro (fun h => absurd h (by decide)) (fun _ => ?_)))); (repeat (with_reducible refine And.intro acl ?_)); (first | (refine hK _ _ ?_) | (refine ⟨_, rfl, hK _ _ ?_⟩) | (refine Or.inl (hK _ _ ?_)) | (refine ⟨_, _, Or.inl (w8.go _), (by first | exact ⟨[], (List.append_nil _).symm⟩ | exact ⟨_, rfl⟩), hK _ _ ?_⟩) | (refine ⟨_, _, Or.inl (w8.go _), hK _ _ ?_⟩) | (refine ⟨_, _, Or.inl (w8.go _).weakQ, hK _ _ ?_⟩) | (refine ⟨_, _, Or.inl (w16.go _), (by first | exact ⟨[], (List.append_nil _).symm⟩ | exact ⟨_, rfl⟩), hK _ _ ?_⟩) | (refine ⟨_, _, Or.inl (w16.go _), hK _ _ ?_⟩) | (refine ⟨_, _, Or.inl (w16.go _).weakQ, hK _ _ ?_⟩) | (refine ⟨_, _, Or.inl (w17.go _), (by first | exact ⟨[], (List.append_nil _).symm⟩ | exact ⟨_, rfl⟩), hK _ _ ?_⟩) | (refine ⟨_, _, Or.inl (w17.go _), hK _ _ ?_⟩) | (refine ⟨_, _, Or.inl (w17.go _).weakQ, hK _ _ ?_⟩)); clear hK K)
                | (with_reducible refine lops_nil ?_)
                | (with_reducible first | refine lavc_reg ?_ | refine lavc_seq ?_ | refine lavc_block ?_ | refine lavc_skip ?_ | refine lavc_exit ?_ | refine lavc_ret ?_ | refine lavcR_round ?_)
                | (refine lavc_cond rfl (fun _ => ?_) (fun hc => absurd hc (by decide)))
                | (refine lavc_cond rfl (fun hc => absurd hc (by decide)) (fun _ => ?_))
                | (simp only [↓reduceIte, Nat.reduceEqDiff, reduceCtorEq]))
              refine lavc_loopM ms54_1 (fun m (x : Nat × ByteArray) => m = x.1 ∧ x.2.size ≤ 32 * x.1 ∧ x.2.size ≤ 1000000 ∧ skipL x.1 x.2 = skipA u) (fun x => [(0, .v (.string x.2))]) (fun x => gg) u2.size (u2.size, u4) ⟨rfl, by show u4.size ≤ 32 * u2.size; omega, by show u4.size ≤ 1000000; omega, by rw [hA, hB]⟩ ?_ rfl ?_
              · simp only [ms54_1, putAll, blank, List.foldl_cons, List.foldl_nil, List.set_cons_succ, List.set_cons_zero, List.cons_append, List.nil_append, ALe, true_or, or_true, and_true, true_and, eq_self, reduceCtorEq, false_or]
              rintro m1 ⟨j, y⟩ ⟨hmj, hy1, hy2, hy3⟩
              simp only at hmj hy1 hy2 hy3 ⊢
              simp only [ms54_1, putAll, blank, List.foldl_cons, List.foldl_nil, List.set_cons_succ, List.set_cons_zero, List.cons_append, List.nil_append]
              by_cases g32 : 32 < y.size
              · have d32 : decide ((y.size : Int) > 32) = true := by rw [decide_eq_true_eq]; omega
                obtain ⟨j, rfl⟩ : ∃ j', j = j' + 1 := ⟨j - 1, by omega⟩
                have p0 := word_p y (by omega)
                have p1 := word_p (y.extract 8 y.size) (by have h := rst_size y 8; exact (by omega : 8 ≤ (rst y 8).size))
                have p2 := word_p (y.extract 16 y.size) (by have h := rst_size y 16; exact (by omega : 8 ≤ (rst y 16).size))
                have p3 := word_p (y.extract 24 y.size) (by have h := rst_size y 24; exact (by omega : 8 ≤ (rst y 24).size))
                by_cases k32 : c32 y = true
                · have e32 : (ibits .and .u64 (ibits .or .u64 (ibits .or .u64 (wordP y) (wordP (y.extract 8 y.size))) (ibits .or .u64 (wordP (y.extract 16 y.size)) (wordP (y.extract 24 y.size)))) 9259542123273814144 == 0) = true := k32
                  rw [skipL, if_pos ⟨g32, k32⟩] at hy3
                  have hzs := rst_size y 32
                  repeat (first
                    | (with_reducible refine lops_step fun K hK => ?_; simp (disch := first | exact dch | fail) only [go_sem, Nat.reduceAdd, Nat.reduceSub, reduceIte, Nat.reduceEqDiff, Int.reduceToNat, Int.reduceBEq, Int.reduceBNe, d32, e32]; (try (first | (refine And.intro (fun _ => ?_) (fun h => absurd h (by decide))) | (refine And.intro (fun h => absurd h (by decide)) (fun _ => ?_)))); (repeat (with_reducible refine And.intro acl ?_)); (first | (refine hK _ _ ?_) | (refine ⟨_, rfl, hK _ _ ?_⟩) | (refine Or.inl (hK _ _ ?_)) | (refine ⟨_, _, Or.inl (p0.go _), (by first | exact ⟨[], (List.append_nil _).symm⟩ | exact ⟨_, rfl⟩), hK _ _ ?_⟩) | (refine ⟨_, _, Or.inl (p0.go _), hK _ _ ?_⟩) | (refine ⟨_, _, Or.inl (p0.go _).weakQ, hK _ _ ?_⟩) | (refine ⟨_, _, Or.inl (p1.go _), (by first | exact ⟨[], (List.append_nil _).symm⟩ | exact ⟨_, rfl⟩), hK _ _ ?_⟩) | (refine ⟨_, _, Or.inl (p1.go _), hK _ _ ?_⟩) | (refine ⟨_, _, Or.inl (p1.go _).weakQ, hK _ _ ?_⟩) | (refine ⟨_, _, Or.inl (p2.go _), (by first | exact ⟨[], (List.append_nil _).symm⟩ | exact ⟨_, rfl⟩), hK _ _ ?_⟩) | (refine ⟨_, _, Or.inl (p2.go _), hK _ _ ?_⟩) | (refine ⟨_, _, Or.inl (p2.go _).weakQ, hK _ _ ?_⟩) | (refine ⟨_, _, Or.inl (p3.go _), (by first | exact ⟨[], (List.append_nil _).symm⟩ | exact ⟨_, rfl⟩), hK _ _ ?_⟩) | (refine ⟨_, _, Or.inl (p3.go _), hK _ _ ?_⟩) | (refine ⟨_, _, Or.inl (p3.go _).weakQ, hK _ _ ?_⟩)); clear hK K)
                    | (with_reducible refine lops_nil ?_)
                    | (with_reducible first | refine lavc_reg ?_ | refine lavc_seq ?_ | refine lavc_block ?_ | refine lavc_skip ?_ | refine lavc_exit ?_ | refine lavc_ret ?_ | refine lavcR_round ?_)
                    | (refine lavc_cond rfl (fun _ => ?_) (fun hc => absurd hc (by decide)))
                    | (refine lavc_cond rfl (fun hc => absurd hc (by decide)) (fun _ => ?_))
                    | (simp only [↓reduceIte, Nat.reduceEqDiff, reduceCtorEq]))
                  refine ⟨j, (j, rst y 32), by omega, ⟨rfl, by show (rst y 32).size ≤ 32 * j; omega, by show (rst y 32).size ≤ 1000000; omega, hy3⟩, ?_, (by first | rfl | trivial)⟩
                  simp only [ms54_1, putAll, blank, List.foldl_cons, List.foldl_nil, List.set_cons_succ, List.set_cons_zero, List.cons_append, List.nil_append, ALe, true_or, or_true, and_true, true_and, eq_self, reduceCtorEq, false_or]
                · have e32 : (ibits .and .u64 (ibits .or .u64 (ibits .or .u64 (wordP y) (wordP (y.extract 8 y.size))) (ibits .or .u64 (wordP (y.extract 16 y.size)) (wordP (y.extract 24 y.size)))) 9259542123273814144 == 0) = false := by simpa [c32] using k32
                  rw [skipL, if_neg (by intro h; exact k32 h.2)] at hy3
                  repeat (first
                    | (with_reducible refine lops_step fun K hK => ?_; simp (disch := first | exact dch | fail) only [go_sem, Nat.reduceAdd, Nat.reduceSub, reduceIte, Nat.reduceEqDiff, Int.reduceToNat, Int.reduceBEq, Int.reduceBNe, d32, e32]; (try (first | (refine And.intro (fun _ => ?_) (fun h => absurd h (by decide))) | (refine And.intro (fun h => absurd h (by decide)) (fun _ => ?_)))); (repeat (with_reducible refine And.intro acl ?_)); (first | (refine hK _ _ ?_) | (refine ⟨_, rfl, hK _ _ ?_⟩) | (refine Or.inl (hK _ _ ?_)) | (refine ⟨_, _, Or.inl (p0.go _), (by first | exact ⟨[], (List.append_nil _).symm⟩ | exact ⟨_, rfl⟩), hK _ _ ?_⟩) | (refine ⟨_, _, Or.inl (p0.go _), hK _ _ ?_⟩) | (refine ⟨_, _, Or.inl (p0.go _).weakQ, hK _ _ ?_⟩) | (refine ⟨_, _, Or.inl (p1.go _), (by first | exact ⟨[], (List.append_nil _).symm⟩ | exact ⟨_, rfl⟩), hK _ _ ?_⟩) | (refine ⟨_, _, Or.inl (p1.go _), hK _ _ ?_⟩) | (refine ⟨_, _, Or.inl (p1.go _).weakQ, hK _ _ ?_⟩) | (refine ⟨_, _, Or.inl (p2.go _), (by first | exact ⟨[], (List.append_nil _).symm⟩ | exact ⟨_, rfl⟩), hK _ _ ?_⟩) | (refine ⟨_, _, Or.inl (p2.go _), hK _ _ ?_⟩) | (refine ⟨_, _, Or.inl (p2.go _).weakQ, hK _ _ ?_⟩) | (refine ⟨_, _, Or.inl (p3.go _), (by first | exact ⟨[], (List.append_nil _).symm⟩ | exact ⟨_, rfl⟩), hK _ _ ?_⟩) | (refine ⟨_, _, Or.inl (p3.go _), hK _ _ ?_⟩) | (refine ⟨_, _, Or.inl (p3.go _).weakQ, hK _ _ ?_⟩)); clear hK K)
                    | (with_reducible refine lops_nil ?_)
                    | (with_reducible first | refine lavc_reg ?_ | refine lavc_seq ?_ | refine lavc_block ?_ | refine lavc_skip ?_ | refine lavc_exit ?_ | refine lavc_ret ?_ | refine lavcR_round ?_)
                    | (refine lavc_cond rfl (fun _ => ?_) (fun hc => absurd hc (by decide)))
                    | (refine lavc_cond rfl (fun hc => absurd hc (by decide)) (fun _ => ?_))
                    | (simp only [↓reduceIte, Nat.reduceEqDiff, reduceCtorEq]))
                  obtain ⟨n1, n2, n3⟩ := next y hy3.symm
                  refine ⟨k, (k, y, gg), by omega, ⟨rfl, n1, n2, n3⟩, ?_, rfl⟩
                  simp only [ms54_0, putAll, blank, List.foldl_cons, List.foldl_nil, List.set_cons_succ, List.set_cons_zero, List.cons_append, List.nil_append, ALe, true_or, or_true, and_true, true_and, eq_self, reduceCtorEq, false_or]
              · have d32 : decide ((y.size : Int) > 32) = false := by rw [decide_eq_false_iff_not]; omega
                have hy4 : y = skipA u := by
                  rw [← hy3]
                  cases j with
                  | zero => rfl
                  | succ j => rw [skipL, if_neg (by intro h; exact g32 h.1)]
                repeat (first
                  | (with_reducible refine lops_step fun K hK => ?_; simp (disch := first | exact dch | fail) only [go_sem, Nat.reduceAdd, Nat.reduceSub, reduceIte, Nat.reduceEqDiff, Int.reduceToNat, Int.reduceBEq, Int.reduceBNe, d32]; (try (first | (refine And.intro (fun _ => ?_) (fun h => absurd h (by decide))) | (refine And.intro (fun h => absurd h (by decide)) (fun _ => ?_)))); (repeat (with_reducible refine And.intro acl ?_)); (first | (refine hK _ _ ?_) | (refine ⟨_, rfl, hK _ _ ?_⟩) | (refine Or.inl (hK _ _ ?_))); clear hK K)
                  | (with_reducible refine lops_nil ?_)
                  | (with_reducible first | refine lavc_reg ?_ | refine lavc_seq ?_ | refine lavc_block ?_ | refine lavc_skip ?_ | refine lavc_exit ?_ | refine lavc_ret ?_ | refine lavcR_round ?_)
                  | (refine lavc_cond rfl (fun _ => ?_) (fun hc => absurd hc (by decide)))
                  | (refine lavc_cond rfl (fun hc => absurd hc (by decide)) (fun _ => ?_))
                  | (simp only [↓reduceIte, Nat.reduceEqDiff, reduceCtorEq]))
                obtain ⟨n1, n2, n3⟩ := next y hy4.symm
                refine ⟨k, (k, y, gg), by omega, ⟨rfl, n1, n2, n3⟩, ?_, rfl⟩
                simp only [ms54_0, putAll, blank, List.foldl_cons, List.foldl_nil, List.set_cons_succ, List.set_cons_zero, List.cons_append, List.nil_append, ALe, true_or, or_true, and_true, true_and, eq_self, reduceCtorEq, false_or]
            · have e16 : (ibits .and .u64 (ibits .or .u64 (wordP u2) (wordP (u2.extract 8 u2.size))) 9259542123273814144 == 0) = false := by simpa [c16] using k16
              have hB : skipB u2 = u2 := by unfold skipB; rw [if_neg (by intro h; exact k16 h.2)]
              repeat (first
                | (with_reducible refine lops_step fun K hK => ?_; simp (disch := first | exact dch | fail) only [go_sem, Nat.reduceAdd, Nat.reduceSub, reduceIte, Nat.reduceEqDiff, Int.reduceToNat, Int.reduceBEq, Int.reduceBNe, hsb, q1, hu, d8, e8, hu2, d16, e16]; (try (first | (refine And.intro (fun _ => ?_) (fun h => absurd h (by decide))) | (refine And.intro (fun h => absurd h (by decide)) (fun _ => ?_)))); (repeat (with_reducible refine And.intro acl ?_)); (first | (refine hK _ _ ?_) | (refine ⟨_, rfl, hK _ _ ?_⟩) | (refine Or.inl (hK _ _ ?_)) | (refine ⟨_, _, Or.inl (w8.go _), (by first | exact ⟨[], (List.append_nil _).symm⟩ | exact ⟨_, rfl⟩), hK _ _ ?_⟩) | (refine ⟨_, _, Or.inl (w8.go _), hK _ _ ?_⟩) | (refine ⟨_, _, Or.inl (w8.go _).weakQ, hK _ _ ?_⟩) | (refine ⟨_, _, Or.inl (w16.go _), (by first | exact ⟨[], (List.append_nil _).symm⟩ | exact ⟨_, rfl⟩), hK _ _ ?_⟩) | (refine ⟨_, _, Or.inl (w16.go _), hK _ _ ?_⟩) | (refine ⟨_, _, Or.inl (w16.go _).weakQ, hK _ _ ?_⟩) | (refine ⟨_, _, Or.inl (w17.go _), (by first | exact ⟨[], (List.append_nil _).symm⟩ | exact ⟨_, rfl⟩), hK _ _ ?_⟩) | (refine ⟨_, _, Or.inl (w17.go _), hK _ _ ?_⟩) | (refine ⟨_, _, Or.inl (w17.go _).weakQ, hK _ _ ?_⟩)); clear hK K)
                | (with_reducible refine lops_nil ?_)
                | (with_reducible first | refine lavc_reg ?_ | refine lavc_seq ?_ | refine lavc_block ?_ | refine lavc_skip ?_ | refine lavc_exit ?_ | refine lavc_ret ?_ | refine lavcR_round ?_)
                | (refine lavc_cond rfl (fun _ => ?_) (fun hc => absurd hc (by decide)))
                | (refine lavc_cond rfl (fun hc => absurd hc (by decide)) (fun _ => ?_))
                | (simp only [↓reduceIte, Nat.reduceEqDiff, reduceCtorEq]))
              obtain ⟨n1, n2, n3⟩ := next u2 (hA.trans hB)
              refine ⟨k, (k, u2, gg), by omega, ⟨rfl, n1, n2, n3⟩, ?_, rfl⟩
              simp only [ms54_0, putAll, blank, List.foldl_cons, List.foldl_nil, List.set_cons_succ, List.set_cons_zero, List.cons_append, List.nil_append, ALe, true_or, or_true, and_true, true_and, eq_self, reduceCtorEq, false_or]
          · have d16 : decide ((u2.size : Int) > 16) = false := by rw [decide_eq_false_iff_not]; omega
            have hB : skipB u2 = u2 := by unfold skipB; rw [if_neg (by intro h; exact g16 h.1)]
            repeat (first
              | (with_reducible refine lops_step fun K hK => ?_; simp (disch := first | exact dch | fail) only [go_sem, Nat.reduceAdd, Nat.reduceSub, reduceIte, Nat.reduceEqDiff, Int.reduceToNat, Int.reduceBEq, Int.reduceBNe, hsb, q1, hu, d8, e8, hu2, d16]; (try (first | (refine And.intro (fun _ => ?_) (fun h => absurd h (by decide))) | (refine And.intro (fun h => absurd h (by decide)) (fun _ => ?_)))); (repeat (with_reducible refine And.intro acl ?_)); (first | (refine hK _ _ ?_) | (refine ⟨_, rfl, hK _ _ ?_⟩) | (refine Or.inl (hK _ _ ?_)) | (refine ⟨_, _, Or.inl (w8.go _), (by first | exact ⟨[], (List.append_nil _).symm⟩ | exact ⟨_, rfl⟩), hK _ _ ?_⟩) | (refine ⟨_, _, Or.inl (w8.go _), hK _ _ ?_⟩) | (refine ⟨_, _, Or.inl (w8.go _).weakQ, hK _ _ ?_⟩)); clear hK K)
              | (with_reducible refine lops_nil ?_)
              | (with_reducible first | refine lavc_reg ?_ | refine lavc_seq ?_ | refine lavc_block ?_ | refine lavc_skip ?_ | refine lavc_exit ?_ | refine lavc_ret ?_ | refine lavcR_round ?_)
              | (refine lavc_cond rfl (fun _ => ?_) (fun hc => absurd hc (by decide)))
              | (refine lavc_cond rfl (fun hc => absurd hc (by decide)) (fun _ => ?_))
              | (simp only [↓reduceIte, Nat.reduceEqDiff, reduceCtorEq]))
            obtain ⟨n1, n2, n3⟩ := next u2 (hA.trans hB)
            refine ⟨k, (k, u2, gg), by omega, ⟨rfl, n1, n2, n3⟩, ?_, rfl⟩
            simp only [ms54_0, putAll, blank, List.foldl_cons, List.foldl_nil, List.set_cons_succ, List.set_cons_zero, List.cons_append, List.nil_append, ALe, true_or, or_true, and_true, true_and, eq_self, reduceCtorEq, false_or]
        · have e8 : (ibits .and .u64 (wordP u) 9259542123273814144 == 0) = false := by simpa [c8] using k8
          have hA : skipA u = u := by unfold skipA; rw [if_neg (by intro h; exact k8 h.2)]
          repeat (first
            | (with_reducible refine lops_step fun K hK => ?_; simp (disch := first | exact dch | fail) only [go_sem, Nat.reduceAdd, Nat.reduceSub, reduceIte, Nat.reduceEqDiff, Int.reduceToNat, Int.reduceBEq, Int.reduceBNe, hsb, q1, hu, d8, e8]; (try (first | (refine And.intro (fun _ => ?_) (fun h => absurd h (by decide))) | (refine And.intro (fun h => absurd h (by decide)) (fun _ => ?_)))); (repeat (with_reducible refine And.intro acl ?_)); (first | (refine hK _ _ ?_) | (refine ⟨_, rfl, hK _ _ ?_⟩) | (refine Or.inl (hK _ _ ?_)) | (refine ⟨_, _, Or.inl (w8.go _), (by first | exact ⟨[], (List.append_nil _).symm⟩ | exact ⟨_, rfl⟩), hK _ _ ?_⟩) | (refine ⟨_, _, Or.inl (w8.go _), hK _ _ ?_⟩) | (refine ⟨_, _, Or.inl (w8.go _).weakQ, hK _ _ ?_⟩)); clear hK K)
            | (with_reducible refine lops_nil ?_)
            | (with_reducible first | refine lavc_reg ?_ | refine lavc_seq ?_ | refine lavc_block ?_ | refine lavc_skip ?_ | refine lavc_exit ?_ | refine lavc_ret ?_ | refine lavcR_round ?_)
            | (refine lavc_cond rfl (fun _ => ?_) (fun hc => absurd hc (by decide)))
            | (refine lavc_cond rfl (fun hc => absurd hc (by decide)) (fun _ => ?_))
            | (simp only [↓reduceIte, Nat.reduceEqDiff, reduceCtorEq]))
          obtain ⟨n1, n2, n3⟩ := next u hA
          refine ⟨k, (k, u, gg), by omega, ⟨rfl, n1, n2, n3⟩, ?_, rfl⟩
          simp only [ms54_0, putAll, blank, List.foldl_cons, List.foldl_nil, List.set_cons_succ, List.set_cons_zero, List.cons_append, List.nil_append, ALe, true_or, or_true, and_true, true_and, eq_self, reduceCtorEq, false_or]
      · have d8 : decide ((u.size : Int) > 8) = false := by rw [decide_eq_false_iff_not]; omega
        have hA : skipA u = u := by unfold skipA; rw [if_neg (by intro h; exact g8 h.1)]
        repeat (first
          | (with_reducible refine lops_step fun K hK => ?_; simp (disch := first | exact dch | fail) only [go_sem, Nat.reduceAdd, Nat.reduceSub, reduceIte, Nat.reduceEqDiff, Int.reduceToNat, Int.reduceBEq, Int.reduceBNe, hsb, q1, hu, d8]; (try (first | (refine And.intro (fun _ => ?_) (fun h => absurd h (by decide))) | (refine And.intro (fun h => absurd h (by decide)) (fun _ => ?_)))); (repeat (with_reducible refine And.intro acl ?_)); (first | (refine hK _ _ ?_) | (refine ⟨_, rfl, hK _ _ ?_⟩) | (refine Or.inl (hK _ _ ?_))); clear hK K)
          | (with_reducible refine lops_nil ?_)
          | (with_reducible first | refine lavc_reg ?_ | refine lavc_seq ?_ | refine lavc_block ?_ | refine lavc_skip ?_ | refine lavc_exit ?_ | refine lavc_ret ?_ | refine lavcR_round ?_)
          | (refine lavc_cond rfl (fun _ => ?_) (fun hc => absurd hc (by decide)))
          | (refine lavc_cond rfl (fun hc => absurd hc (by decide)) (fun _ => ?_))
          | (simp only [↓reduceIte, Nat.reduceEqDiff, reduceCtorEq]))
        obtain ⟨n1, n2, n3⟩ := next u hA
        refine ⟨k, (k, u, gg), by omega, ⟨rfl, n1, n2, n3⟩, ?_, rfl⟩
        simp only [ms54_0, putAll, blank, List.foldl_cons, List.foldl_nil, List.set_cons_succ, List.set_cons_zero, List.cons_append, List.nil_append, ALe, true_or, or_true, and_true, true_and, eq_self, reduceCtorEq, false_or]
    · have q1 : decide (b < 128) = false := by rw [decide_eq_false_iff_not]; omega
      have hnb : ¬ bq t 0 < 128 := by rw [hb0]; exact h128
      have hfi := first_in b.toNat (by omega)
      obtain ⟨f, hf⟩ : ∃ f : Nat, lay_unicode_utf8_first.getD b.toNat 0 = (f : Int) := ⟨(lay_unicode_utf8_first.getD b.toNat 0).toNat, by omega⟩
      have hfst : fstB t = (f : Int) := by unfold fstB; rw [hb0, hf]
      rw [hf] at hfi
      have hlen : lay_unicode_utf8_first.length = 256 := by decide +kernel
      have hlen2 : lay_unicode_utf8_acceptRanges.length = 32 := rfl
      obtain ⟨p, hp⟩ : ∃ p, f / 16 = p := ⟨_, rfl⟩
      have sh : shrI .u8 (f : Int) 4 = (p : Int) := by rw [shrI_le _ _ _ (by decide), ← hp]; rfl
      have hpl : p < 16 := by omega
      have hac := acc_in p hpl
      have hlo0 : loB t = lay_unicode_utf8_acceptRanges.getD (p * 2) 0 := by unfold loB; rw [hfst, ← hp]; rfl
      have hhi0 : hiB t = lay_unicode_utf8_acceptRanges.getD (p * 2 + 1) 0 := by unfold hiB; rw [hfst, ← hp]; rfl
      obtain ⟨lo, hlo⟩ : ∃ v, lay_unicode_utf8_acceptRanges.getD (p * 2) 0 = v := ⟨_, rfl⟩
      obtain ⟨hi, hhi⟩ : ∃ v, lay_unicode_utf8_acceptRanges.getD (p * 2 + 1) 0 = v := ⟨_, rfl⟩
      rw [hlo] at hlo0
      rw [hhi] at hhi0
      rw [hlo, hhi] at hac
      obtain ⟨n, hn⟩ : ∃ n, IntKind.i64.wrap (ibits .and .u8 (f : Int) 7) = n := ⟨_, rfl⟩
      have hcn : cntB t = n := by unfold cntB; rw [hfst, hn]
      obtain ⟨b1, hb1⟩ : ∃ v, bq t 1 = v := ⟨_, rfl⟩
      obtain ⟨b2, hb2⟩ : ∃ v, bq t 2 = v := ⟨_, rfl⟩
      obtain ⟨b3, hb3⟩ : ∃ v, bq t 3 = v := ⟨_, rfl⟩
      have hs1 : ((t.data.toList.getD 1 0).toNat : Int) = b1 := hb1
      have hs2 : ((t.data.toList.getD 2 0).toNat : Int) = b2 := hb2
      have hs3 : ((t.data.toList.getD 3 0).toNat : Int) = b3 := hb3
      have bad : stepN t = none → V = false := fun h => by rw [← hinv, vsF_bad k t ht0 hnb h]
      have good : ∀ q, 0 < q → stepN t = some q → (rst t q).size < k ∧ (rst t q).size ≤ 1000000 ∧ vsF k (rst t q) = V := fun q hq h => by
        rw [vsF_some k q t ht0 hnb h] at hinv
        have := rst_size t q
        exact ⟨by omega, by omega, hinv⟩
      repeat (first
        | (with_reducible refine lops_step fun K hK => ?_; simp (disch := first | exact dch | fail) only [go_sem, Nat.reduceAdd, Nat.reduceSub, reduceIte, Nat.reduceEqDiff, Int.reduceToNat, Int.reduceBEq, Int.reduceBNe, hsb, q1, hlen, hf, sh, hlen2, hac, hn, get_concat, set_concat]; (try (first | (refine And.intro (fun _ => ?_) (fun h => absurd h (by decide))) | (refine And.intro (fun h => absurd h (by decide)) (fun _ => ?_)))); (repeat (with_reducible refine And.intro acl ?_)); (first | (refine hK _ _ ?_) | (refine ⟨_, rfl, hK _ _ ?_⟩) | (refine Or.inl (hK _ _ ?_))); clear hK K)
        | (with_reducible refine lops_nil ?_)
        | (with_reducible first | refine lavc_reg ?_ | refine lavc_seq ?_ | refine lavc_block ?_ | refine lavc_skip ?_ | refine lavc_exit ?_ | refine lavc_ret ?_ | refine lavcR_round ?_)
        | (refine lavc_cond rfl (fun _ => ?_) (fun hc => absurd hc (by decide)))
        | (refine lavc_cond rfl (fun hc => absurd hc (by decide)) (fun _ => ?_))
        | (simp only [↓reduceIte, Nat.reduceEqDiff, reduceCtorEq]))
      refine lavc_cond rfl (fun hc => ?_) (fun hc => ?_)
      · have n2 : n = 2 := by simpa using hc
        by_cases s0 : t.size < 2
        · have d0 : decide ((t.size : Int) < 2) = true := by rw [decide_eq_true_eq]; omega
          have hst : stepN t = none := by unfold stepN; rw [hcn, if_pos n2, hlo0, hhi0, hb1, if_pos (by omega)]
          rw [bad hst]
          repeat (first
            | (with_reducible refine lops_step fun K hK => ?_; simp (disch := first | exact dch | fail) only [go_sem, Nat.reduceAdd, Nat.reduceSub, reduceIte, Nat.reduceEqDiff, Int.reduceToNat, Int.reduceBEq, Int.reduceBNe, d0, hs1, hs2, hs3, get_concat, set_concat]; (try (first | (refine And.intro (fun _ => ?_) (fun h => absurd h (by decide))) | (refine And.intro (fun h => absurd h (by decide)) (fun _ => ?_)))); (repeat (with_reducible refine And.intro acl ?_)); (first | (refine hK _ _ ?_) | (refine ⟨_, rfl, hK _ _ ?_⟩) | (refine Or.inl (hK _ _ ?_))); clear hK K)
            | (with_reducible refine lops_nil ?_)
            | (with_reducible first | refine lavc_reg ?_ | refine lavc_seq ?_ | refine lavc_block ?_ | refine lavc_skip ?_ | refine lavc_exit ?_ | refine lavc_ret ?_ | refine lavcR_round ?_)
            | (refine lavc_cond rfl (fun _ => ?_) (fun hc => absurd hc (by decide)))
            | (refine lavc_cond rfl (fun hc => absurd hc (by decide)) (fun _ => ?_))
            | (simp only [↓reduceIte, Nat.reduceEqDiff, reduceCtorEq]))
          refine And.intro (by simp) ?_
          simp (disch := first | exact dch | fail) only [go_sem, Nat.reduceAdd, Nat.reduceSub, reduceIte, Nat.reduceEqDiff, Int.reduceToNat, Int.reduceBEq, Int.reduceBNe, aret, aretL, aret1, aenv]
          (repeat (with_reducible refine And.intro acl ?_))
          exact end0 (NR.v _) rfl
        have d0 : decide ((t.size : Int) < 2) = false := by rw [decide_eq_false_iff_not]; omega
        by_cases s1 : b1 < lo
        · have d1 : decide (b1 < lo) = true := by rw [decide_eq_true_eq]; omega
          have hst : stepN t = none := by unfold stepN; rw [hcn, if_pos n2, hlo0, hhi0, hb1, if_pos (by omega)]
          rw [bad hst]
          repeat (first
            | (with_reducible refine lops_step fun K hK => ?_; simp (disch := first | exact dch | fail) only [go_sem, Nat.reduceAdd, Nat.reduceSub, reduceIte, Nat.reduceEqDiff, Int.reduceToNat, Int.reduceBEq, Int.reduceBNe, d0, d1, hs1, hs2, hs3, get_concat, set_concat]; (try (first | (refine And.intro (fun _ => ?_) (fun h => absurd h (by decide))) | (refine And.intro (fun h => absurd h (by decide)) (fun _ => ?_)))); (repeat (with_reducible refine And.intro acl ?_)); (first | (refine hK _ _ ?_) | (refine ⟨_, rfl, hK _ _ ?_⟩) | (refine Or.inl (hK _ _ ?_))); clear hK K)
            | (with_reducible refine lops_nil ?_)
            | (with_reducible first | refine lavc_reg ?_ | refine lavc_seq ?_ | refine lavc_block ?_ | refine lavc_skip ?_ | refine lavc_exit ?_ | refine lavc_ret ?_ | refine lavcR_round ?_)
            | (refine lavc_cond rfl (fun _ => ?_) (fun hc => absurd hc (by decide)))
            | (refine lavc_cond rfl (fun hc => absurd hc (by decide)) (fun _ => ?_))
            | (simp only [↓reduceIte, Nat.reduceEqDiff, reduceCtorEq]))
          refine And.intro (by simp) ?_
          simp (disch := first | exact dch | fail) only [go_sem, Nat.reduceAdd, Nat.reduceSub, reduceIte, Nat.reduceEqDiff, Int.reduceToNat, Int.reduceBEq, Int.reduceBNe, aret, aretL, aret1, aenv]
          (repeat (with_reducible refine And.intro acl ?_))
          exact end0 (NR.v _) rfl
        have d1 : decide (b1 < lo) = false := by rw [decide_eq_false_iff_not]; omega
        by_cases s2 : hi < b1
        · have d2 : decide (hi < b1) = true := by rw [decide_eq_true_eq]; omega
          have hst : stepN t = none := by unfold stepN; rw [hcn, if_pos n2, hlo0, hhi0, hb1, if_pos (by omega)]
          rw [bad hst]
          repeat (first
            | (with_reducible refine lops_step fun K hK => ?_; simp (disch := first | exact dch | fail) only [go_sem, Nat.reduceAdd, Nat.reduceSub, reduceIte, Nat.reduceEqDiff, Int.reduceToNat, Int.reduceBEq, Int.reduceBNe, d0, d1, d2, hs1, hs2, hs3, get_concat, set_concat]; (try (first | (refine And.intro (fun _ => ?_) (fun h => absurd h (by decide))) | (refine And.intro (fun h => absurd h (by decide)) (fun _ => ?_)))); (repeat (with_reducible refine And.intro acl ?_)); (first | (refine hK _ _ ?_) | (refine ⟨_, rfl, hK _ _ ?_⟩) | (refine Or.inl (hK _ _ ?_))); clear hK K)
            | (with_reducible refine lops_nil ?_)
            | (with_reducible first | refine lavc_reg ?_ | refine lavc_seq ?_ | refine lavc_block ?_ | refine lavc_skip ?_ | refine lavc_exit ?_ | refine lavc_ret ?_ | refine lavcR_round ?_)
            | (refine lavc_cond rfl (fun _ => ?_) (fun hc => absurd hc (by decide)))
            | (refine lavc_cond rfl (fun hc => absurd hc (by decide)) (fun _ => ?_))
            | (simp only [↓reduceIte, Nat.reduceEqDiff, reduceCtorEq]))
          refine And.intro (by simp) ?_
          simp (disch := first | exact dch | fail) only [go_sem, Nat.reduceAdd, Nat.reduceSub, reduceIte, Nat.reduceEqDiff, Int.reduceToNat, Int.reduceBEq, Int.reduceBNe, aret, aretL, aret1, aenv]
          (repeat (with_reducible refine And.intro acl ?_))
          exact end0 (NR.v _) rfl
        have d2 : decide (hi < b1) = false := by rw [decide_eq_false_iff_not]; omega
        have hst : stepN t = some 2 := by unfold stepN; rw [hcn, if_pos n2, hlo0, hhi0, hb1, if_neg (by omega)]
        obtain ⟨m1, m2, m3⟩ := good 2 (by decide) hst
        repeat (first
          | (with_reducible refine lops_step fun K hK => ?_; simp (disch := first | exact dch | fail) only [go_sem, Nat.reduceAdd, Nat.reduceSub, reduceIte, Nat.reduceEqDiff, Int.reduceToNat, Int.reduceBEq, Int.reduceBNe, d0, d1, d2, hs1, hs2, hs3, get_concat, set_concat]; (try (first | (refine And.intro (fun _ => ?_) (fun h => absurd h (by decide))) | (refine And.intro (fun h => absurd h (by decide)) (fun _ => ?_)))); (repeat (with_reducible refine And.intro acl ?_)); (first | (refine hK _ _ ?_) | (refine ⟨_, rfl, hK _ _ ?_⟩) | (refine Or.inl (hK _ _ ?_))); clear hK K)
          | (with_reducible refine lops_nil ?_)
          | (with_reducible first | refine lavc_reg ?_ | refine lavc_seq ?_ | refine lavc_block ?_ | refine lavc_skip ?_ | refine lavc_exit ?_ | refine lavc_ret ?_ | refine lavcR_round ?_)
          | (refine lavc_cond rfl (fun _ => ?_) (fun hc => absurd hc (by decide)))
          | (refine lavc_cond rfl (fun hc => absurd hc (by decide)) (fun _ => ?_))
          | (simp only [↓reduceIte, Nat.reduceEqDiff, reduceCtorEq]))
        refine ⟨k, (k, rst t 2, gg ++ [⟨ints .u8 [lo, hi], 0, true, 117⟩]), by omega, ⟨rfl, m1, m2, m3⟩, ?_, rfl⟩
        simp only [ms54_0, putAll, blank, List.foldl_cons, List.foldl_nil, List.set_cons_succ, List.set_cons_zero, List.cons_append, List.nil_append, ALe, true_or, or_true, and_true, true_and, eq_self, reduceCtorEq, false_or]
      have n2 : n ≠ 2 := by simpa using hc
      repeat (first
        | (with_reducible refine lops_step fun K hK => ?_; simp (disch := first | exact dch | fail) only [go_sem, Nat.reduceAdd, Nat.reduceSub, reduceIte, Nat.reduceEqDiff, Int.reduceToNat, Int.reduceBEq, Int.reduceBNe, hs1, hs2, hs3, get_concat, set_concat]; (try (first | (refine And.intro (fun _ => ?_) (fun h => absurd h (by decide))) | (refine And.intro (fun h => absurd h (by decide)) (fun _ => ?_)))); (repeat (with_reducible refine And.intro acl ?_)); (first | (refine hK _ _ ?_) | (refine ⟨_, rfl, hK _ _ ?_⟩) | (refine Or.inl (hK _ _ ?_))); clear hK K)
        | (with_reducible refine lops_nil ?_)
        | (with_reducible first | refine lavc_reg ?_ | refine lavc_seq ?_ | refine lavc_block ?_ | refine lavc_skip ?_ | refine lavc_exit ?_ | refine lavc_ret ?_ | refine lavcR_round ?_)
        | (refine lavc_cond rfl (fun _ => ?_) (fun hc => absurd hc (by decide)))
        | (refine lavc_cond rfl (fun hc => absurd hc (by decide)) (fun _ => ?_))
        | (simp only [↓reduceIte, Nat.reduceEqDiff, reduceCtorEq]))
      refine lavc_cond rfl (fun hc => ?_) (fun hc => ?_)
      · have n3 : n = 3 := by simpa using hc
        by_cases s0 : t.size < 3
        · have d0 : decide ((t.size : Int) < 3) = true := by rw [decide_eq_true_eq]; omega
          have hst : stepN t = none := by unfold stepN; rw [hcn, if_neg n2, if_pos n3, hlo0, hhi0, hb1, hb2, if_pos (by omega)]
          rw [bad hst]
          repeat (first
            | (with_reducible refine lops_step fun K hK => ?_; simp (disch := first | exact dch | fail) only [go_sem, Nat.reduceAdd, Nat.reduceSub, reduceIte, Nat.reduceEqDiff, Int.reduceToNat, Int.reduceBEq, Int.reduceBNe, d0, hs1, hs2, hs3, get_concat, set_concat]; (try (first | (refine And.intro (fun _ => ?_) (fun h => absurd h (by decide))) | (refine And.intro (fun h => absurd h (by decide)) (fun _ => ?_)))); (repeat (with_reducible refine And.intro acl ?_)); (first | (refine hK _ _ ?_) | (refine ⟨_, rfl, hK _ _ ?_⟩) | (refine Or.inl (hK _ _ ?_))); clear hK K)
            | (with_reducible refine lops_nil ?_)
            | (with_reducible first | refine lavc_reg ?_ | refine lavc_seq ?_ | refine lavc_block ?_ | refine lavc_skip ?_ | refine lavc_exit ?_ | refine lavc_ret ?_ | refine lavcR_round ?_)
            | (refine lavc_cond rfl (fun _ => ?_) (fun hc => absurd hc (by decide)))
            | (refine lavc_cond rfl (fun hc => absurd hc (by decide)) (fun _ => ?_))
            | (simp only [↓reduceIte, Nat.reduceEqDiff, reduceCtorEq]))
          refine And.intro (by simp) ?_
          simp (disch := first | exact dch | fail) only [go_sem, Nat.reduceAdd, Nat.reduceSub, reduceIte, Nat.reduceEqDiff, Int.reduceToNat, Int.reduceBEq, Int.reduceBNe, aret, aretL, aret1, aenv]
          (repeat (with_reducible refine And.intro acl ?_))
          exact end0 (NR.v _) rfl
        have d0 : decide ((t.size : Int) < 3) = false := by rw [decide_eq_false_iff_not]; omega
        by_cases s1 : b1 < lo
        · have d1 : decide (b1 < lo) = true := by rw [decide_eq_true_eq]; omega
          have hst : stepN t = none := by unfold stepN; rw [hcn, if_neg n2, if_pos n3, hlo0, hhi0, hb1, hb2, if_pos (by omega)]
          rw [bad hst]
          repeat (first
            | (with_reducible refine lops_step fun K hK => ?_; simp (disch := first | exact dch | fail) only [go_sem, Nat.reduceAdd, Nat.reduceSub, reduceIte, Nat.reduceEqDiff, Int.reduceToNat, Int.reduceBEq, Int.reduceBNe, d0, d1, hs1, hs2, hs3, get_concat, set_concat]; (try (first | (refine And.intro (fun _ => ?_) (fun h => absurd h (by decide))) | (refine And.intro (fun h => absurd h (by decide)) (fun _ => ?_)))); (repeat (with_reducible refine And.intro acl ?_)); (first | (refine hK _ _ ?_) | (refine ⟨_, rfl, hK _ _ ?_⟩) | (refine Or.inl (hK _ _ ?_))); clear hK K)
            | (with_reducible refine lops_nil ?_)
            | (with_reducible first | refine lavc_reg ?_ | refine lavc_seq ?_ | refine lavc_block ?_ | refine lavc_skip ?_ | refine lavc_exit ?_ | refine lavc_ret ?_ | refine lavcR_round ?_)
            | (refine lavc_cond rfl (fun _ => ?_) (fun hc => absurd hc (by decide)))
            | (refine lavc_cond rfl (fun hc => absurd hc (by decide)) (fun _ => ?_))
            | (simp only [↓reduceIte, Nat.reduceEqDiff, reduceCtorEq]))
          refine And.intro (by simp) ?_
          simp (disch := first | exact dch | fail) only [go_sem, Nat.reduceAdd, Nat.reduceSub, reduceIte, Nat.reduceEqDiff, Int.reduceToNat, Int.reduceBEq, Int.reduceBNe, aret, aretL, aret1, aenv]
          (repeat (with_reducible refine And.intro acl ?_))
          exact end0 (NR.v _) rfl
        have d1 : decide (b1 < lo) = false := by rw [decide_eq_false_iff_not]; omega
        by_cases s2 : hi < b1
        · have d2 : decide (hi < b1) = true := by rw [decide_eq_true_eq]; omega
          have hst : stepN t = none := by unfold stepN; rw [hcn, if_neg n2, if_pos n3, hlo0, hhi0, hb1, hb2, if_pos (by omega)]
          rw [bad hst]
          repeat (first
            | (with_reducible refine lops_step fun K hK => ?_; simp (disch := first | exact dch | fail) only [go_sem, Nat.reduceAdd, Nat.reduceSub, reduceIte, Nat.reduceEqDiff, Int.reduceToNat, Int.reduceBEq, Int.reduceBNe, d0, d1, d2, hs1, hs2, hs3, get_concat, set_concat]; (try (first | (refine And.intro (fun _ => ?_) (fun h => absurd h (by decide))) | (refine And.intro (fun h => absurd h (by decide)) (fun _ => ?_)))); (repeat (with_reducible refine And.intro acl ?_)); (first | (refine hK _ _ ?_) | (refine ⟨_, rfl, hK _ _ ?_⟩) | (refine Or.inl (hK _ _ ?_))); clear hK K)
            | (with_reducible refine lops_nil ?_)
            | (with_reducible first | refine lavc_reg ?_ | refine lavc_seq ?_ | refine lavc_block ?_ | refine lavc_skip ?_ | refine lavc_exit ?_ | refine lavc_ret ?_ | refine lavcR_round ?_)
            | (refine lavc_cond rfl (fun _ => ?_) (fun hc => absurd hc (by decide)))
            | (refine lavc_cond rfl (fun hc => absurd hc (by decide)) (fun _ => ?_))
            | (simp only [↓reduceIte, Nat.reduceEqDiff, reduceCtorEq]))
          refine And.intro (by simp) ?_
          simp (disch := first | exact dch | fail) only [go_sem, Nat.reduceAdd, Nat.reduceSub, reduceIte, Nat.reduceEqDiff, Int.reduceToNat, Int.reduceBEq, Int.reduceBNe, aret, aretL, aret1, aenv]
          (repeat (with_reducible refine And.intro acl ?_))
          exact end0 (NR.v _) rfl
        have d2 : decide (hi < b1) = false := by rw [decide_eq_false_iff_not]; omega
        by_cases s3 : b2 < 128
        · have d3 : decide (b2 < 128) = true := by rw [decide_eq_true_eq]; omega
          have hst : stepN t = none := by unfold stepN; rw [hcn, if_neg n2, if_pos n3, hlo0, hhi0, hb1, hb2, if_pos (by omega)]
          rw [bad hst]
          repeat (first
            | (with_reducible refine lops_step fun K hK => ?_; simp (disch := first | exact dch | fail) only [go_sem, Nat.reduceAdd, Nat.reduceSub, reduceIte, Nat.reduceEqDiff, Int.reduceToNat, Int.reduceBEq, Int.reduceBNe, d0, d1, d2, d3, hs1, hs2, hs3, get_concat, set_concat]; (try (first | (refine And.intro (fun _ => ?_) (fun h => absurd h (by decide))) | (refine And.intro (fun h => absurd h (by decide)) (fun _ => ?_)))); (repeat (with_reducible refine And.intro acl ?_)); (first | (refine hK _ _ ?_) | (refine ⟨_, rfl, hK _ _ ?_⟩) | (refine Or.inl (hK _ _ ?_))); clear hK K)
            | (with_reducible refine lops_nil ?_)
            | (with_reducible first | refine lavc_reg ?_ | refine lavc_seq ?_ | refine lavc_block ?_ | refine lavc_skip ?_ | refine lavc_exit ?_ | refine lavc_ret ?_ | refine lavcR_round ?_)
            | (refine lavc_cond rfl (fun _ => ?_) (fun hc => absurd hc (by decide)))
            | (refine lavc_cond rfl (fun hc => absurd hc (by decide)) (fun _ => ?_))
            | (simp only [↓reduceIte, Nat.reduceEqDiff, reduceCtorEq]))
          refine And.intro (by simp) ?_
          simp (disch := first | exact dch | fail) only [go_sem, Nat.reduceAdd, Nat.reduceSub, reduceIte, Nat.reduceEqDiff, Int.reduceToNat, Int.reduceBEq, Int.reduceBNe, aret, aretL, aret1, aenv]
          (repeat (with_reducible refine And.intro acl ?_))
          exact end0 (NR.v _) rfl
        have d3 : decide (b2 < 128) = false := by rw [decide_eq_false_iff_not]; omega
        by_cases s4 : 191 < b2
        · have d4 : decide (191 < b2) = true := by rw [decide_eq_true_eq]; omega
          have hst : stepN t = none := by unfold stepN; rw [hcn, if_neg n2, if_pos n3, hlo0, hhi0, hb1, hb2, if_pos (by omega)]
          rw [bad hst]
          repeat (first
            | (with_reducible refine lops_step fun K hK => ?_; simp (disch := first | exact dch | fail) only [go_sem, Nat.reduceAdd, Nat.reduceSub, reduceIte, Nat.reduceEqDiff, Int.reduceToNat, Int.reduceBEq, Int.reduceBNe, d0, d1, d2, d3, d4, hs1, hs2, hs3, get_concat, set_concat]; (try (first | (refine And.intro (fun _ => ?_) (fun h => absurd h (by decide))) | (refine And.intro (fun h => absurd h (by decide)) (fun _ => ?_)))); (repeat (with_reducible refine And.intro acl ?_)); (first | (refine hK _ _ ?_) | (refine ⟨_, rfl, hK _ _ ?_⟩) | (refine Or.inl (hK _ _ ?_))); clear hK K)
            | (with_reducible refine lops_nil ?_)
            | (with_reducible first | refine lavc_reg ?_ | refine lavc_seq ?_ | refine lavc_block ?_ | refine lavc_skip ?_ | refine lavc_exit ?_ | refine lavc_ret ?_ | refine lavcR_round ?_)
            | (refine lavc_cond rfl (fun _ => ?_) (fun hc => absurd hc (by decide)))
            | (refine lavc_cond rfl (fun hc => absurd hc (by decide)) (fun _ => ?_))
            | (simp only [↓reduceIte, Nat.reduceEqDiff, reduceCtorEq]))
          refine And.intro (by simp) ?_
          simp (disch := first | exact dch | fail) only [go_sem, Nat.reduceAdd, Nat.reduceSub, reduceIte, Nat.reduceEqDiff, Int.reduceToNat, Int.reduceBEq, Int.reduceBNe, aret, aretL, aret1, aenv]
          (repeat (with_reducible refine And.intro acl ?_))
          exact end0 (NR.v _) rfl
        have d4 : decide (191 < b2) = false := by rw [decide_eq_false_iff_not]; omega
        have hst : stepN t = some 3 := by unfold stepN; rw [hcn, if_neg n2, if_pos n3, hlo0, hhi0, hb1, hb2, if_neg (by omega)]
        obtain ⟨m1, m2, m3⟩ := good 3 (by decide) hst
        repeat (first
          | (with_reducible refine lops_step fun K hK => ?_; simp (disch := first | exact dch | fail) only [go_sem, Nat.reduceAdd, Nat.reduceSub, reduceIte, Nat.reduceEqDiff, Int.reduceToNat, Int.reduceBEq, Int.reduceBNe, d0, d1, d2, d3, d4, hs1, hs2, hs3, get_concat, set_concat]; (try (first | (refine And.intro (fun _ => ?_) (fun h => absurd h (by decide))) | (refine And.intro (fun h => absurd h (by decide)) (fun _ => ?_)))); (repeat (with_reducible refine And.intro acl ?_)); (first | (refine hK _ _ ?_) | (refine ⟨_, rfl, hK _ _ ?_⟩) | (refine Or.inl (hK _ _ ?_))); clear hK K)
          | (with_reducible refine lops_nil ?_)
          | (with_reducible first | refine lavc_reg ?_ | refine lavc_seq ?_ | refine lavc_block ?_ | refine lavc_skip ?_ | refine lavc_exit ?_ | refine lavc_ret ?_ | refine lavcR_round ?_)
          | (refine lavc_cond rfl (fun _ => ?_) (fun hc => absurd hc (by decide)))
          | (refine lavc_cond rfl (fun hc => absurd hc (by decide)) (fun _ => ?_))
          | (simp only [↓reduceIte, Nat.reduceEqDiff, reduceCtorEq]))
        refine ⟨k, (k, rst t 3, gg ++ [⟨ints .u8 [lo, hi], 0, true, 117⟩]), by omega, ⟨rfl, m1, m2, m3⟩, ?_, rfl⟩
        simp only [ms54_0, putAll, blank, List.foldl_cons, List.foldl_nil, List.set_cons_succ, List.set_cons_zero, List.cons_append, List.nil_append, ALe, true_or, or_true, and_true, true_and, eq_self, reduceCtorEq, false_or]
      have n3 : n ≠ 3 := by simpa using hc
      repeat (first
        | (with_reducible refine lops_step fun K hK => ?_; simp (disch := first | exact dch | fail) only [go_sem, Nat.reduceAdd, Nat.reduceSub, reduceIte, Nat.reduceEqDiff, Int.reduceToNat, Int.reduceBEq, Int.reduceBNe, hs1, hs2, hs3, get_concat, set_concat]; (try (first | (refine And.intro (fun _ => ?_) (fun h => absurd h (by decide))) | (refine And.intro (fun h => absurd h (by decide)) (fun _ => ?_)))); (repeat (with_reducible refine And.intro acl ?_)); (first | (refine hK _ _ ?_) | (refine ⟨_, rfl, hK _ _ ?_⟩) | (refine Or.inl (hK _ _ ?_))); clear hK K)
        | (with_reducible refine lops_nil ?_)
        | (with_reducible first | refine lavc_reg ?_ | refine lavc_seq ?_ | refine lavc_block ?_ | refine lavc_skip ?_ | refine lavc_exit ?_ | refine lavc_ret ?_ | refine lavcR_round ?_)
        | (refine lavc_cond rfl (fun _ => ?_) (fun hc => absurd hc (by decide)))
        | (refine lavc_cond rfl (fun hc => absurd hc (by decide)) (fun _ => ?_))
        | (simp only [↓reduceIte, Nat.reduceEqDiff, reduceCtorEq]))
      refine lavc_cond rfl (fun hc => ?_) (fun hc => ?_)
      · have n4 : n = 4 := by simpa using hc
        by_cases s0 : t.size < 4
        · have d0 : decide ((t.size : Int) < 4) = true := by rw [decide_eq_true_eq]; omega
          have hst : stepN t = none := by unfold stepN; rw [hcn, if_neg n2, if_neg n3, if_pos n4, hlo0, hhi0, hb1, hb2, hb3, if_pos (by omega)]
          rw [bad hst]
          repeat (first
            | (with_reducible refine lops_step fun K hK => ?_; simp (disch := first | exact dch | fail) only [go_sem, Nat.reduceAdd, Nat.reduceSub, reduceIte, Nat.reduceEqDiff, Int.reduceToNat, Int.reduceBEq, Int.reduceBNe, d0, hs1, hs2, hs3, get_concat, set_concat]; (try (first | (refine And.intro (fun _ => ?_) (fun h => absurd h (by decide))) | (refine And.intro (fun h => absurd h (by decide)) (fun _ => ?_)))); (repeat (with_reducible refine And.intro acl ?_)); (first | (refine hK _ _ ?_) | (refine ⟨_, rfl, hK _ _ ?_⟩) | (refine Or.inl (hK _ _ ?_))); clear hK K)
            | (with_reducible refine lops_nil ?_)
            | (with_reducible first | refine lavc_reg ?_ | refine lavc_seq ?_ | refine lavc_block ?_ | refine lavc_skip ?_ | refine lavc_exit ?_ | refine lavc_ret ?_ | refine lavcR_round ?_)
            | (refine lavc_cond rfl (fun _ => ?_) (fun hc => absurd hc (by decide)))
            | (refine lavc_cond rfl (fun hc => absurd hc (by decide)) (fun _ => ?_))
            | (simp only [↓reduceIte, Nat.reduceEqDiff, reduceCtorEq]))
          refine And.intro (by simp) ?_
          simp (disch := first | exact dch | fail) only [go_sem, Nat.reduceAdd, Nat.reduceSub, reduceIte, Nat.reduceEqDiff, Int.reduceToNat, Int.reduceBEq, Int.reduceBNe, aret, aretL, aret1, aenv]
          (repeat (with_reducible refine And.intro acl ?_))
          exact end0 (NR.v _) rfl
        have d0 : decide ((t.size : Int) < 4) = false := by rw [decide_eq_false_iff_not]; omega
        by_cases s1 : b1 < lo
        · have d1 : decide (b1 < lo) = true := by rw [decide_eq_true_eq]; omega
          have hst : stepN t = none := by unfold stepN; rw [hcn, if_neg n2, if_neg n3, if_pos n4, hlo0, hhi0, hb1, hb2, hb3, if_pos (by omega)]
          rw [bad hst]
          repeat (first
            | (with_reducible refine lops_step fun K hK => ?_; simp (disch := first | exact dch | fail) only [go_sem, Nat.reduceAdd, Nat.reduceSub, reduceIte, Nat.reduceEqDiff, Int.reduceToNat, Int.reduceBEq, Int.reduceBNe, d0, d1, hs1, hs2, hs3, get_concat, set_concat]; (try (first | (refine And.intro (fun _ => ?_) (fun h => absurd h (by decide))) | (refine And.intro (fun h => absurd h (by decide)) (fun _ => ?_)))); (repeat (with_reducible refine And.intro acl ?_)); (first | (refine hK _ _ ?_) | (refine ⟨_, rfl, hK _ _ ?_⟩) | (refine Or.inl (hK _ _ ?_))); clear hK K)
            | (with_reducible refine lops_nil ?_)
            | (with_reducible first | refine lavc_reg ?_ | refine lavc_seq ?_ | refine lavc_block ?_ | refine lavc_skip ?_ | refine lavc_exit ?_ | refine lavc_ret ?_ | refine lavcR_round ?_)
            | (refine lavc_cond rfl (fun _ => ?_) (fun hc => absurd hc (by decide)))
            | (refine lavc_cond rfl (fun hc => absurd hc (by decide)) (fun _ => ?_))
            | (simp only [↓reduceIte, Nat.reduceEqDiff, reduceCtorEq]))
          refine And.intro (by simp) ?_
          simp (disch := first | exact dch | fail) only [go_sem, Nat.reduceAdd, Nat.reduceSub, reduceIte, Nat.reduceEqDiff, Int.reduceToNat, Int.reduceBEq, Int.reduceBNe, aret, aretL, aret1, aenv]
          (repeat (with_reducible refine And.intro acl ?_))
          exact end0 (NR.v _) rfl
        have d1 : decide (b1 < lo) = false := by rw [decide_eq_false_iff_not]; omega
        by_cases s2 : hi < b1
        · have d2 : decide (hi < b1) = true := by rw [decide_eq_true_eq]; omega
          have hst : stepN t = none := by unfold stepN; rw [hcn, if_neg n2, if_neg n3, if_pos n4, hlo0, hhi0, hb1, hb2, hb3, if_pos (by omega)]
          rw [bad hst]
          repeat (first
            | (with_reducible refine lops_step fun K hK => ?_; simp (disch := first | exact dch | fail) only [go_sem, Nat.reduceAdd, Nat.reduceSub, reduceIte, Nat.reduceEqDiff, Int.reduceToNat, Int.reduceBEq, Int.reduceBNe, d0, d1, d2, hs1, hs2, hs3, get_concat, set_concat]; (try (first | (refine And.intro (fun _ => ?_) (fun h => absurd h (by decide))) | (refine And.intro (fun h => absurd h (by decide)) (fun _ => ?_)))); (repeat (with_reducible refine And.intro acl ?_)); (first | (refine hK _ _ ?_) | (refine ⟨_, rfl, hK _ _ ?_⟩) | (refine Or.inl (hK _ _ ?_))); clear hK K)
            | (with_reducible refine lops_nil ?_)
            | (with_reducible first | refine lavc_reg ?_ | refine lavc_seq ?_ | refine lavc_block ?_ | refine lavc_skip ?_ | refine lavc_exit ?_ | refine lavc_ret ?_ | refine lavcR_round ?_)
            | (refine lavc_cond rfl (fun _ => ?_) (fun hc => absurd hc (by decide)))
            | (refine lavc_cond rfl (fun hc => absurd hc (by decide)) (fun _ => ?_))
            | (simp only [↓reduceIte, Nat.reduceEqDiff, reduceCtorEq]))
          refine And.intro (by simp) ?_
          simp (disch := first | exact dch | fail) only [go_sem, Nat.reduceAdd, Nat.reduceSub, reduceIte, Nat.reduceEqDiff, Int.reduceToNat, Int.reduceBEq, Int.reduceBNe, aret, aretL, aret1, aenv]
          (repeat (with_reducible refine And.intro acl ?_))
          exact end0 (NR.v _) rfl
        have d2 : decide (hi < b1) = false := by rw [decide_eq_false_iff_not]; omega
        by_cases s3 : b2 < 128
        · have d3 : decide (b2 < 128) = true := by rw [decide_eq_true_eq]; omega
          have hst : stepN t = none := by unfold stepN; rw [hcn, if_neg n2, if_neg n3, if_pos n4, hlo0, hhi0, hb1, hb2, hb3, if_pos (by omega)]
          rw [bad hst]
          repeat (first
            | (with_reducible refine lops_step fun K hK => ?_; simp (disch := first | exact dch | fail) only [go_sem, Nat.reduceAdd, Nat.reduceSub, reduceIte, Nat.reduceEqDiff, Int.reduceToNat, Int.reduceBEq, Int.reduceBNe, d0, d1, d2, d3, hs1, hs2, hs3, get_concat, set_concat]; (try (first | (refine And.intro (fun _ => ?_) (fun h => absurd h (by decide))) | (refine And.intro (fun h => absurd h (by decide)) (fun _ => ?_)))); (repeat (with_reducible refine And.intro acl ?_)); (first | (refine hK _ _ ?_) | (refine ⟨_, rfl, hK _ _ ?_⟩) | (refine Or.inl (hK _ _ ?_))); clear hK K)
            | (with_reducible refine lops_nil ?_)
            | (with_reducible first | refine lavc_reg ?_ | refine lavc_seq ?_ | refine lavc_block ?_ | refine lavc_skip ?_ | refine lavc_exit ?_ | refine lavc_ret ?_ | refine lavcR_round ?_)
            | (refine lavc_cond rfl (fun _ => ?_) (fun hc => absurd hc (by decide)))
            | (refine lavc_cond rfl (fun hc => absurd hc (by decide)) (fun _ => ?_))
            | (simp only [↓reduceIte, Nat.reduceEqDiff, reduceCtorEq]))
          refine And.intro (by simp) ?_
          simp (disch := first | exact dch | fail) only [go_sem, Nat.reduceAdd, Nat.reduceSub, reduceIte, Nat.reduceEqDiff, Int.reduceToNat, Int.reduceBEq, Int.reduceBNe, aret, aretL, aret1, aenv]
          (repeat (with_reducible refine And.intro acl ?_))
          exact end0 (NR.v _) rfl
        have d3 : decide (b2 < 128) = false := by rw [decide_eq_false_iff_not]; omega
        by_cases s4 : 191 < b2
        · have d4 : decide (191 < b2) = true := by rw [decide_eq_true_eq]; omega
          have hst : stepN t = none := by unfold stepN; rw [hcn, if_neg n2, if_neg n3, if_pos n4, hlo0, hhi0, hb1, hb2, hb3, if_pos (by omega)]
          rw [bad hst]
          repeat (first
            | (with_reducible refine lops_step fun K hK => ?_; simp (disch := first | exact dch | fail) only [go_sem, Nat.reduceAdd, Nat.reduceSub, reduceIte, Nat.reduceEqDiff, Int.reduceToNat, Int.reduceBEq, Int.reduceBNe, d0, d1, d2, d3, d4, hs1, hs2, hs3, get_concat, set_concat]; (try (first | (refine And.intro (fun _ => ?_) (fun h => absurd h (by decide))) | (refine And.intro (fun h => absurd h (by decide)) (fun _ => ?_)))); (repeat (with_reducible refine And.intro acl ?_)); (first | (refine hK _ _ ?_) | (refine ⟨_, rfl, hK _ _ ?_⟩) | (refine Or.inl (hK _ _ ?_))); clear hK K)
            | (with_reducible refine lops_nil ?_)
            | (with_reducible first | refine lavc_reg ?_ | refine lavc_seq ?_ | refine lavc_block ?_ | refine lavc_skip ?_ | refine lavc_exit ?_ | refine lavc_ret ?_ | refine lavcR_round ?_)
            | (refine lavc_cond rfl (fun _ => ?_) (fun hc => absurd hc (by decide)))
            | (refine lavc_cond rfl (fun hc => absurd hc (by decide)) (fun _ => ?_))
            | (simp only [↓reduceIte, Nat.reduceEqDiff, reduceCtorEq]))
          refine And.intro (by simp) ?_
          simp (disch := first | exact dch | fail) only [go_sem, Nat.reduceAdd, Nat.reduceSub, reduceIte, Nat.reduceEqDiff, Int.reduceToNat, Int.reduceBEq, Int.reduceBNe, aret, aretL, aret1, aenv]
          (repeat (with_reducible refine And.intro acl ?_))
          exact end0 (NR.v _) rfl
        have d4 : decide (191 < b2) = false := by rw [decide_eq_false_iff_not]; omega
        by_cases s5 : b3 < 128
        · have d5 : decide (b3 < 128) = true := by rw [decide_eq_true_eq]; omega
          have hst : stepN t = none := by unfold stepN; rw [hcn, if_neg n2, if_neg n3, if_pos n4, hlo0, hhi0, hb1, hb2, hb3, if_pos (by omega)]
          rw [bad hst]
          repeat (first
            | (with_reducible refine lops_step fun K hK => ?_; simp (disch := first | exact dch | fail) only [go_sem, Nat.reduceAdd, Nat.reduceSub, reduceIte, Nat.reduceEqDiff, Int.reduceToNat, Int.reduceBEq, Int.reduceBNe, d0, d1, d2, d3, d4, d5, hs1, hs2, hs3, get_concat, set_concat]; (try (first | (refine And.intro (fun _ => ?_) (fun h => absurd h (by decide))) | (refine And.intro (fun h => absurd h (by decide)) (fun _ => ?_)))); (repeat (with_reducible refine And.intro acl ?_)); (first | (refine hK _ _ ?_) | (refine ⟨_, rfl, hK _ _ ?_⟩) | (refine Or.inl (hK _ _ ?_))); clear hK K)
            | (with_reducible refine lops_nil ?_)
            | (with_reducible first | refine lavc_reg ?_ | refine lavc_seq ?_ | refine lavc_block ?_ | refine lavc_skip ?_ | refine lavc_exit ?_ | refine lavc_ret ?_ | refine lavcR_round ?_)
            | (refine lavc_cond rfl (fun _ => ?_) (fun hc => absurd hc (by decide)))
            | (refine lavc_cond rfl (fun hc => absurd hc (by decide)) (fun _ => ?_))
            | (simp only [↓reduceIte, Nat.reduceEqDiff, reduceCtorEq]))
          refine And.intro (by simp) ?_
          simp (disch := first | exact dch | fail) only [go_sem, Nat.reduceAdd, Nat.reduceSub, reduceIte, Nat.reduceEqDiff, Int.reduceToNat, Int.reduceBEq, Int.reduceBNe, aret, aretL, aret1, aenv]
          (repeat (with_reducible refine And.intro acl ?_))
          exact end0 (NR.v _) rfl
        have d5 : decide (b3 < 128) = false := by rw [decide_eq_false_iff_not]; omega
        by_cases s6 : 191 < b3
        · have d6 : decide (191 < b3) = true := by rw [decide_eq_true_eq]; omega
          have hst : stepN t = none := by unfold stepN; rw [hcn, if_neg n2, if_neg n3, if_pos n4, hlo0, hhi0, hb1, hb2, hb3, if_pos (by omega)]
          rw [bad hst]
          repeat (first
            | (with_reducible refine lops_step fun K hK => ?_; simp (disch := first | exact dch | fail) only [go_sem, Nat.reduceAdd, Nat.reduceSub, reduceIte, Nat.reduceEqDiff, Int.reduceToNat, Int.reduceBEq, Int.reduceBNe, d0, d1, d2, d3, d4, d5, d6, hs1, hs2, hs3, get_concat, set_concat]; (try (first | (refine And.intro (fun _ => ?_) (fun h => absurd h (by decide))) | (refine And.intro (fun h => absurd h (by decide)) (fun _ => ?_)))); (repeat (with_reducible refine And.intro acl ?_)); (first | (refine hK _ _ ?_) | (refine ⟨_, rfl, hK _ _ ?_⟩) | (refine Or.inl (hK _ _ ?_))); clear hK K)
            | (with_reducible refine lops_nil ?_)
            | (with_reducible first | refine lavc_reg ?_ | refine lavc_seq ?_ | refine lavc_block ?_ | refine lavc_skip ?_ | refine lavc_exit ?_ | refine lavc_ret ?_ | refine lavcR_round ?_)
            | (refine lavc_cond rfl (fun _ => ?_) (fun hc => absurd hc (by decide)))
            | (refine lavc_cond rfl (fun hc => absurd hc (by decide)) (fun _ => ?_))
            | (simp only [↓reduceIte, Nat.reduceEqDiff, reduceCtorEq]))
          refine And.intro (by simp) ?_
          simp (disch := first | exact dch | fail) only [go_sem, Nat.reduceAdd, Nat.reduceSub, reduceIte, Nat.reduceEqDiff, Int.reduceToNat, Int.reduceBEq, Int.reduceBNe, aret, aretL, aret1, aenv]
          (repeat (with_reducible refine And.intro acl ?_))
          exact end0 (NR.v _) rfl
        have d6 : decide (191 < b3) = false := by rw [decide_eq_false_iff_not]; omega
        have hst : stepN t = some 4 := by unfold stepN; rw [hcn, if_neg n2, if_neg n3, if_pos n4, hlo0, hhi0, hb1, hb2, hb3, if_neg (by omega)]
        obtain ⟨m1, m2, m3⟩ := good 4 (by decide) hst
        repeat (first
          | (with_reducible refine lops_step fun K hK => ?_; simp (disch := first | exact dch | fail) only [go_sem, Nat.reduceAdd, Nat.reduceSub, reduceIte, Nat.reduceEqDiff, Int.reduceToNat, Int.reduceBEq, Int.reduceBNe, d0, d1, d2, d3, d4, d5, d6, hs1, hs2, hs3, get_concat, set_concat]; (try (first | (refine And.intro (fun _ => ?_) (fun h => absurd h (by decide))) | (refine And.intro (fun h => absurd h (by decide)) (fun _ => ?_)))); (repeat (with_reducible refine And.intro acl ?_)); (first | (refine hK _ _ ?_) | (refine ⟨_, rfl, hK _ _ ?_⟩) | (refine Or.inl (hK _ _ ?_))); clear hK K)
          | (with_reducible refine lops_nil ?_)
          | (with_reducible first | refine lavc_reg ?_ | refine lavc_seq ?_ | refine lavc_block ?_ | refine lavc_skip ?_ | refine lavc_exit ?_ | refine lavc_ret ?_ | refine lavcR_round ?_)
          | (refine lavc_cond rfl (fun _ => ?_) (fun hc => absurd hc (by decide)))
          | (refine lavc_cond rfl (fun hc => absurd hc (by decide)) (fun _ => ?_))
          | (simp only [↓reduceIte, Nat.reduceEqDiff, reduceCtorEq]))
        refine ⟨k, (k, rst t 4, gg ++ [⟨ints .u8 [lo, hi], 0, true, 117⟩]), by omega, ⟨rfl, m1, m2, m3⟩, ?_, rfl⟩
        simp only [ms54_0, putAll, blank, List.foldl_cons, List.foldl_nil, List.set_cons_succ, List.set_cons_zero, List.cons_append, List.nil_append, ALe, true_or, or_true, and_true, true_and, eq_self, reduceCtorEq, false_or]
      have n4 : n ≠ 4 := by simpa using hc
      have hst : stepN t = none := by unfold stepN; rw [hcn, if_neg n2, if_neg n3, if_neg n4]
      rw [bad hst]
      repeat (first
        | (with_reducible refine lops_step fun K hK => ?_; simp (disch := first | exact dch | fail) only [go_sem, Nat.reduceAdd, Nat.reduceSub, reduceIte, Nat.reduceEqDiff, Int.reduceToNat, Int.reduceBEq, Int.reduceBNe, hs1, hs2, hs3, get_concat, set_concat]; (try (first | (refine And.intro (fun _ => ?_) (fun h => absurd h (by decide))) | (refine And.intro (fun h => absurd h (by decide)) (fun _ => ?_)))); (repeat (with_reducible refine And.intro acl ?_)); (first | (refine hK _ _ ?_) | (refine ⟨_, rfl, hK _ _ ?_⟩) | (refine Or.inl (hK _ _ ?_))); clear hK K)
        | (with_reducible refine lops_nil ?_)
        | (with_reducible first | refine lavc_reg ?_ | refine lavc_seq ?_ | refine lavc_block ?_ | refine lavc_skip ?_ | refine lavc_exit ?_ | refine lavc_ret ?_ | refine lavcR_round ?_)
        | (refine lavc_cond rfl (fun _ => ?_) (fun hc => absurd hc (by decide)))
        | (refine lavc_cond rfl (fun hc => absurd hc (by decide)) (fun _ => ?_))
        | (simp only [↓reduceIte, Nat.reduceEqDiff, reduceCtorEq]))
      refine And.intro (by simp) ?_
      simp (disch := first | exact dch | fail) only [go_sem, Nat.reduceAdd, Nat.reduceSub, reduceIte, Nat.reduceEqDiff, Int.reduceToNat, Int.reduceBEq, Int.reduceBNe, aret, aretL, aret1, aenv]
      (repeat (with_reducible refine And.intro acl ?_))
      exact end0 (NR.v _) rfl
  · obtain rfl : V = true := by rw [← hinv, vsF_end k t (by omega)]
    repeat (first
      | (with_reducible refine lops_step fun K hK => ?_; simp (disch := first | exact dch | fail) only [go_sem, Nat.reduceAdd, Nat.reduceSub, reduceIte, Nat.reduceEqDiff, Int.reduceToNat, Int.reduceBEq, Int.reduceBNe]; (try (first | (refine And.intro (fun _ => ?_) (fun h => absurd h (by decide))) | (refine And.intro (fun h => absurd h (by decide)) (fun _ => ?_)))); (repeat (with_reducible refine And.intro acl ?_)); (first | (refine hK _ _ ?_) | (refine ⟨_, rfl, hK _ _ ?_⟩) | (refine Or.inl (hK _ _ ?_))); clear hK K)
      | (with_reducible refine lops_nil ?_)
      | (with_reducible first | refine lavc_reg ?_ | refine lavc_seq ?_ | refine lavc_block ?_ | refine lavc_skip ?_ | refine lavc_exit ?_ | refine lavc_ret ?_ | refine lavcR_round ?_)
      | (refine lavc_cond rfl (fun _ => ?_) (fun hc => absurd hc (by decide)))
      | (refine lavc_cond rfl (fun hc => absurd hc (by decide)) (fun _ => ?_))
      | (simp only [↓reduceIte, Nat.reduceEqDiff, reduceCtorEq]))
    refine And.intro (by simp) ?_
    simp (disch := first | exact dch | fail) only [go_sem, Nat.reduceAdd, Nat.reduceSub, reduceIte, Nat.reduceEqDiff, Int.reduceToNat, Int.reduceBEq, Int.reduceBNe, aret, aretL, aret1, aenv]
    (repeat (with_reducible refine And.intro acl ?_))
    exact end0 (NR.v _) rfl
end Go.Abs.S
