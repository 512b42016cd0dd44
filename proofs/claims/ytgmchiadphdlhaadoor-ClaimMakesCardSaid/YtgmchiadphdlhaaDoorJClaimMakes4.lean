/- utf8.ValidString. Ranges over a function: what stays when other objects come up; a function's end behind one. Rounds' bodies, as they are looked at; written by wip/rfcode.py. page.Of: a round. slices. -/
import Derived.Test.YtgmchiadphdlhaaDoorJClaimMakes3
import Derived.RangeFuncNested
import Derived.RangeFuncBound
import Derived.RangeFuncCalls
import Derived.RangeFuncLeaves
import Derived.RangeFuncBox
import Derived.Shelf.Abstract
import Derived.Shelf.RegionOpen
import Derived.WalkKit
import Derived.OwnWalkIn
import Derived.TacticsInMore
import Derived.LoopNIn
import Derived.LoopIn
import Derived.Test.YtgmchiadphdlhaaDoorProg
import Derived.WideShapes
namespace Go.Abs.S
attribute [local go_sem] lguard aopO aop nxL aenv toAV tput aLoad aStore vcells aBin aNilI aUn aAlloc aBox aBuild aBSlice afill aConv isIntT aappZ aCap aArr aMM aMake aSlice bnd3 bnd aFldAddr aFld aIdxAddr aIdx aExt aLen aCopy aEq0 bAV aUb aapp aappQ agh acont List.getD_cons_zero List.getD_cons_succ List.set_cons_zero List.set_cons_succ List.getElem?_cons_zero List.getElem?_cons_succ List.length_cons List.length_nil List.map_cons List.map_nil ints_length if_true if_false Bool.false_eq_true true_and and_true eq_self ne_eq not_false_eq_true not_true_eq_false beq_self_eq_true Nat.zero_add Nat.add_zero Nat.mul_one Nat.zero_mul Int.toNat_natCast List.toList_toArray List.all_cons List.all_nil AV.one Value.oneCell' Bool.and_true Bool.true_and forall_const true_implies false_implies implies_true Option.map_some Option.map_none Option.isSome_some Option.isSome_none imp_self rdP_flat rdP_row splice_one ints_set ints_get List.append_nil List.cons_append List.nil_append List.getElem?_toArray List.drop_zero ints_drop ints_take List.take_of_length_le splice_all ints_one Option.some.injEq Option.getD_some List.length_replicate zArr List.map_replicate rep_ints splice_intsR List.length_set List.length_append List.flatten_replicate_singleton rep_slice rep_string rep_bool rep_iface List.replicate_zero if_pos if_neg List.mapM_cons List.mapM_nil Option.pure_def Option.bind_eq_bind Option.bind_some Bool.true_eq_false Bool.not_false Bool.not_true get_concat set_concat
open Go.Proofs
set_option linter.unusedVariables false
set_option linter.unusedSimpArgs false
set_option maxRecDepth 100000
set_option maxHeartbeats 8000000
/-- A text's byte. -/
def bq (s : ByteArray) (i : Nat) : Int := ((s.data.toList.getD i 0).toNat : Int)
theorem bq_byte (s : ByteArray) (i : Nat) : 0 ≤ bq s i ∧ bq s i ≤ 255 := by
  unfold bq
  have := (s.data.toList.getD i 0).toNat_lt
  omega
def wb (t : ByteArray) (k : Nat) : Int := IntKind.u64.wrap ((t.data.toList.getD k 0).toNat : Int)
/-- Eight bytes as a number. -/
def wordP (t : ByteArray) : Int :=
  ibits .or .u64 (ibits .or .u64 (ibits .or .u64 (ibits .or .u64 (ibits .or .u64 (ibits .or .u64 (ibits .or .u64 (wb t 0) (shlI .u64 (wb t 1) 8)) (shlI .u64 (wb t 2) 16)) (shlI .u64 (wb t 3) 24)) (shlI .u64 (wb t 4) 32)) (shlI .u64 (wb t 5) 40)) (shlI .u64 (wb t 6) 48)) (shlI .u64 (wb t 7) 56)
theorem word_p (t : ByteArray) (h : 8 ≤ t.size) : PCall Tryd.prog glob 69 [.v (.string t)] (.v (.int .u64 (wordP t))) := by
  refine PCall.of ctx.nr nrs (NR.v _) ?_
  refine lcall69 (by simp) 0 (Nat.le_refl _) ?_
  unfold lc69
  simp only [List.length_cons, List.length_nil, Nat.reduceAdd, Nat.reduceSub, List.replicate_succ, List.replicate_zero, List.cons_append, List.nil_append]
  refine gc1 tt tt tt tt ⟨?_⟩
  refine And.intro (by simp) ?_
  simp (disch := first | exact dch | fail) only [go_sem, Nat.reduceAdd, Nat.reduceSub, reduceIte, Nat.reduceEqDiff, Int.reduceToNat, Int.reduceBEq, Int.reduceBNe, aret, aretL, aret1, aenv]
  (repeat (with_reducible refine And.intro acl ?_))
  exact end0 (NR.v _) rfl
/-- The rest behind so many bytes. -/
abbrev rst (t : ByteArray) (n : Nat) : ByteArray := t.extract n t.size
theorem rst_size (t : ByteArray) (n : Nat) : (rst t n).size = t.size - n := by simp
def c8 (t : ByteArray) : Bool := ibits .and .u64 (wordP t) 9259542123273814144 == 0
def c16 (t : ByteArray) : Bool := ibits .and .u64 (ibits .or .u64 (wordP t) (wordP (rst t 8))) 9259542123273814144 == 0
def c32 (t : ByteArray) : Bool := ibits .and .u64 (ibits .or .u64 (ibits .or .u64 (wordP t) (wordP (rst t 8))) (ibits .or .u64 (wordP (rst t 16)) (wordP (rst t 24)))) 9259542123273814144 == 0
def skipL : Nat → ByteArray → ByteArray
  | 0, t => t
  | k + 1, t => if 32 < t.size ∧ c32 t = true then skipL k (rst t 32) else t
def skipB (t : ByteArray) : ByteArray := if 16 < t.size ∧ c16 t = true then skipL t.size (rst t 16) else t
def skipA (t : ByteArray) : ByteArray := if 8 < t.size ∧ c8 t = true then skipB (rst t 8) else t
theorem skipL_size : ∀ (k : Nat) (t : ByteArray), (skipL k t).size ≤ t.size
  | 0, t => Nat.le_refl _
  | k + 1, t => by
    unfold skipL
    split
    · have := skipL_size k (rst t 32)
      rw [rst_size] at this
      omega
    · exact Nat.le_refl _
theorem skipA_size (t : ByteArray) : (skipA t).size ≤ t.size := by
  unfold skipA
  split
  · unfold skipB
    have h := rst_size t 8
    split
    · have := skipL_size (rst t 8).size (rst (rst t 8) 16)
      have h2 := rst_size (rst t 8) 16
      omega
    · omega
  · exact Nat.le_refl _
/-- What the first byte tells: how many there are, and between which the second one lies. -/
def fstB (t : ByteArray) : Int := lay_unicode_utf8_first.getD (bq t 0).toNat 0
def cntB (t : ByteArray) : Int := IntKind.i64.wrap (ibits .and .u8 (fstB t) 7)
def loB (t : ByteArray) : Int := lay_unicode_utf8_acceptRanges.getD ((fstB t).toNat / 16 * 2) 0
def hiB (t : ByteArray) : Int := lay_unicode_utf8_acceptRanges.getD ((fstB t).toNat / 16 * 2 + 1) 0
def stepN (t : ByteArray) : Option Nat :=
  if cntB t = 2 then (if t.size < 2 ∨ bq t 1 < loB t ∨ hiB t < bq t 1 then none else some 2)
  else if cntB t = 3 then (if t.size < 3 ∨ bq t 1 < loB t ∨ hiB t < bq t 1 ∨ bq t 2 < 128 ∨ 191 < bq t 2 then none else some 3)
  else if cntB t = 4 then (if t.size < 4 ∨ bq t 1 < loB t ∨ hiB t < bq t 1 ∨ bq t 2 < 128 ∨ 191 < bq t 2 ∨ bq t 3 < 128 ∨ 191 < bq t 3 then none else some 4)
  else none
def vsF : Nat → ByteArray → Bool
  | 0, _ => true
  | k + 1, t => if t.size = 0 then true else if bq t 0 < 128 then vsF k (skipA (rst t 1)) else match stepN t with
    | none => false
    | some n => vsF k (rst t n)
/-- Is a text UTF-8? -/
def validP (s : ByteArray) : Bool := vsF (s.size + 1) s
theorem vsF_end (k : Nat) (t : ByteArray) (h : t.size = 0) : vsF (k + 1) t = true := by
  unfold vsF
  rw [if_pos h]
theorem vsF_ascii (k : Nat) (t : ByteArray) (h : 0 < t.size) (h2 : bq t 0 < 128) : vsF (k + 1) t = vsF k (skipA (rst t 1)) := by
  rw [vsF, if_neg (by omega), if_pos h2]
theorem vsF_bad (k : Nat) (t : ByteArray) (h : 0 < t.size) (h2 : ¬ bq t 0 < 128) (h3 : stepN t = none) : vsF (k + 1) t = false := by
  rw [vsF, if_neg (by omega), if_neg h2, h3]
theorem vsF_some (k n : Nat) (t : ByteArray) (h : 0 < t.size) (h2 : ¬ bq t 0 < 128) (h3 : stepN t = some n) : vsF (k + 1) t = vsF k (rst t n) := by
  rw [vsF, if_neg (by omega), if_neg h2, h3]
theorem first_in : ∀ b : Nat, b < 256 → 0 ≤ lay_unicode_utf8_first.getD b 0 ∧ lay_unicode_utf8_first.getD b 0 ≤ 255 := by decide +kernel
theorem acc_in : ∀ p : Nat, p < 16 → (lay_unicode_utf8_acceptRanges.drop (p * 2)).take 2 = [lay_unicode_utf8_acceptRanges.getD (p * 2) 0, lay_unicode_utf8_acceptRanges.getD (p * 2 + 1) 0] := by decide +kernel
theorem valid_p (s : ByteArray) (hs : s.size ≤ 9223372036854775807) : PCall Tryd.prog glob 54 [.v (.string s)] (.v (.bool (validP s))) := by
  obtain ⟨V, hV⟩ : ∃ V, validP s = V := ⟨_, rfl⟩
  rw [hV]
  refine PCall.of ctx.nr nrs (NR.v _) ?_
  refine lcall54 (by simp) 0 (Nat.le_refl _) ?_
  unfold lc54
  simp only [List.length_cons, List.length_nil, Nat.reduceAdd, Nat.reduceSub, List.replicate_succ, List.replicate_zero, List.cons_append, List.nil_append]
  refine gc1 tt tt tt tt ⟨?_⟩
  refine lavc_loopM ms54_0 (fun m (x : Nat × ByteArray × AHeap) => m = x.1 ∧ x.2.1.size < x.1 ∧ x.2.1.size ≤ 9223372036854775807 ∧ vsF x.1 x.2.1 = V) (fun x => [(0, .v (.string x.2.1))]) (fun x => x.2.2) (s.size + 1) (s.size + 1, s, []) ⟨rfl, Nat.lt_succ_self _, hs, hV⟩ ?_ rfl ?_
  · simp only [ms54_0, putAll, blank, List.foldl_cons, List.foldl_nil, List.set_cons_succ, List.set_cons_zero, List.cons_append, List.nil_append, ALe, true_or, or_true, and_true, true_and, eq_self, reduceCtorEq, false_or]
  rintro m ⟨k, t, gg⟩ ⟨hmk, hlt, hts, hinv⟩
  simp only at hmk hlt hts hinv ⊢
  simp only [ms54_0, putAll, blank, List.foldl_cons, List.foldl_nil, List.set_cons_succ, List.set_cons_zero, List.cons_append, List.nil_append]
  obtain ⟨k, rfl⟩ : ∃ k', k = k' + 1 := ⟨k - 1, by omega⟩
  refine go1 tt tt tt tt ⟨?_⟩
  refine lavc_cond rfl (fun hc => ?_) (fun hc => ?_) <;> try simp only [decide_eq_true_eq, decide_eq_false_iff_not, Int.not_lt, Int.not_le, beq_iff_eq, bne_iff_ne, bne_eq_false_iff_eq, beq_eq_false_iff_ne, ne_eq, Bool.not_eq_true', Bool.not_eq_false'] at hc
  · have hb := bq_byte t 0
    have ht0 : 0 < t.size := by omega
    obtain ⟨b, hb0⟩ : ∃ b, bq t 0 = b := ⟨_, rfl⟩
    have hsb : ((t.data.toList.getD 0 0).toNat : Int) = b := hb0
    rw [hb0] at hb
    by_cases h128 : b < 128
    · have q1 : decide (b < 128) = true := by rw [decide_eq_true_eq]; omega
      rw [vsF_ascii k t ht0 (by rw [hb0]; exact h128)] at hinv
      have hus := rst_size t 1
      obtain ⟨u, hu⟩ : ∃ u, t.extract 1 t.size = u := ⟨_, rfl⟩
      have hu' : rst t 1 = u := hu
      rw [hu'] at hus hinv
      have hsk := skipA_size u
      have next : ∀ v, skipA u = v → v.size < k ∧ v.size ≤ 9223372036854775807 ∧ vsF k v = V := fun v hv => by
        rw [hv] at hsk hinv
        exact ⟨by omega, by omega, hinv⟩
      have w8 := fun h => word_p u h
      by_cases g8 : 8 < u.size
      · have d8 : decide ((u.size : Int) > 8) = true := by rw [decide_eq_true_eq]; omega
        have w8 := w8 (by omega)
        by_cases k8 : c8 u = true
        · have e8 : (ibits .and .u64 (wordP u) 9259542123273814144 == 0) = true := k8
          have hu2s := rst_size u 8
          obtain ⟨u2, hu2⟩ : ∃ u2, u.extract 8 u.size = u2 := ⟨_, rfl⟩
          have hu2' : rst u 8 = u2 := hu2
          rw [hu2'] at hu2s
          have hA : skipA u = skipB u2 := by unfold skipA; rw [if_pos ⟨g8, k8⟩, hu2']
          by_cases g16 : 16 < u2.size
          · have d16 : decide ((u2.size : Int) > 16) = true := by rw [decide_eq_true_eq]; omega
            have w16 := word_p u2 (by omega)
            have hu3s := rst_size u2 8
            have w17 := word_p (u2.extract 8 u2.size) (by rw [hu3s]; omega)
            by_cases k16 : c16 u2 = true
            · have e16 : (ibits .and .u64 (ibits .or .u64 (wordP u2) (wordP (u2.extract 8 u2.size))) 9259542123273814144 == 0) = true := k16
              have hB : skipB u2 = skipL u2.size (rst u2 16) := by unfold skipB; rw [if_pos ⟨g16, k16⟩]
              have hu4s := rst_size u2 16
              obtain ⟨u4, hu4⟩ : ∃ x, u2.extract 16 u2.size = x := ⟨_, rfl⟩
              have hu4' : rst u2 16 = u4 := hu4
              rw [hu4'] at hu4s hB
              refine gc1 (an hsb (an q1 (an hu (an d8 (an e8 (an hu2 (an d16 (an e16 (an hu4 tt))))))))) (an w8.go (an w16.go (an w17.go tt))) tt tt ⟨?_⟩
              refine lavc_loopM ms54_1 (fun m (x : Nat × ByteArray) => m = x.1 ∧ x.2.size ≤ 32 * x.1 ∧ x.2.size ≤ 9223372036854775807 ∧ skipL x.1 x.2 = skipA u) (fun x => [(0, .v (.string x.2))]) (fun x => gg) u2.size (u2.size, u4) ⟨rfl, by show u4.size ≤ 32 * u2.size; omega, by show u4.size ≤ 9223372036854775807; omega, by rw [hA, hB]⟩ ?_ rfl ?_
              · simp only [ms54_1, putAll, blank, List.foldl_cons, List.foldl_nil, List.set_cons_succ, List.set_cons_zero, List.cons_append, List.nil_append, ALe, true_or, or_true, and_true, true_and, eq_self, reduceCtorEq, false_or]
              rintro m1 ⟨j, y⟩ ⟨hmj, hy1, hy2, hy3⟩
              simp only at hmj hy1 hy2 hy3 ⊢
              simp only [ms54_1, putAll, blank, List.foldl_cons, List.foldl_nil, List.set_cons_succ, List.set_cons_zero, List.cons_append, List.nil_append]
              by_cases g32 : 32 < y.size
              · have d32 : decide ((y.size : Int) > 32) = true := by rw [decide_eq_true_eq]; omega
                obtain ⟨j, rfl⟩ : ∃ j', j = j' + 1 := ⟨j - 1, by omega⟩
                have p0 := word_p y (by omega)
                have p1 := word_p (y.extract 8 y.size) (by have h := rst_size y 8; exact (by omega : 8 ≤ (rst y 8).size))
                have p2 := word_p (y.extract 16 y.size) (by have h := rst_size y 16; exact (by omega : 8 ≤ (rst y 16).size))
                have p3 := word_p (y.extract 24 y.size) (by have h := rst_size y 24; exact (by omega : 8 ≤ (rst y 24).size))
                by_cases k32 : c32 y = true
                · have e32 : (ibits .and .u64 (ibits .or .u64 (ibits .or .u64 (wordP y) (wordP (y.extract 8 y.size))) (ibits .or .u64 (wordP (y.extract 16 y.size)) (wordP (y.extract 24 y.size)))) 9259542123273814144 == 0) = true := k32
                  rw [skipL, if_pos ⟨g32, k32⟩] at hy3
                  have hzs := rst_size y 32
                  refine gc1 (an d32 (an e32 tt)) (an p0.go (an p1.go (an p2.go (an p3.go tt)))) tt tt ⟨?_⟩
                  refine ⟨j, (j, rst y 32), by omega, ⟨rfl, by show (rst y 32).size ≤ 32 * j; omega, by show (rst y 32).size ≤ 9223372036854775807; omega, hy3⟩, ?_, (by first | rfl | trivial)⟩
                  simp only [ms54_1, putAll, blank, List.foldl_cons, List.foldl_nil, List.set_cons_succ, List.set_cons_zero, List.cons_append, List.nil_append, ALe, true_or, or_true, and_true, true_and, eq_self, reduceCtorEq, false_or]
                · have e32 : (ibits .and .u64 (ibits .or .u64 (ibits .or .u64 (wordP y) (wordP (y.extract 8 y.size))) (ibits .or .u64 (wordP (y.extract 16 y.size)) (wordP (y.extract 24 y.size)))) 9259542123273814144 == 0) = false := by simpa [c32] using k32
                  rw [skipL, if_neg (by intro h; exact k32 h.2)] at hy3
                  refine gc1 (an d32 (an e32 tt)) (an p0.go (an p1.go (an p2.go (an p3.go tt)))) tt tt ⟨?_⟩
                  obtain ⟨n1, n2, n3⟩ := next y hy3.symm
                  refine ⟨k, (k, y, gg), by omega, ⟨rfl, n1, n2, n3⟩, ?_, rfl⟩
                  simp only [ms54_0, putAll, blank, List.foldl_cons, List.foldl_nil, List.set_cons_succ, List.set_cons_zero, List.cons_append, List.nil_append, ALe, true_or, or_true, and_true, true_and, eq_self, reduceCtorEq, false_or]
              · have d32 : decide ((y.size : Int) > 32) = false := by rw [decide_eq_false_iff_not]; omega
                have hy4 : y = skipA u := by
                  rw [← hy3]
                  cases j with
                  | zero => rfl
                  | succ j => rw [skipL, if_neg (by intro h; exact g32 h.1)]
                refine gc1 (an d32 tt) tt tt tt ⟨?_⟩
                obtain ⟨n1, n2, n3⟩ := next y hy4.symm
                refine ⟨k, (k, y, gg), by omega, ⟨rfl, n1, n2, n3⟩, ?_, rfl⟩
                simp only [ms54_0, putAll, blank, List.foldl_cons, List.foldl_nil, List.set_cons_succ, List.set_cons_zero, List.cons_append, List.nil_append, ALe, true_or, or_true, and_true, true_and, eq_self, reduceCtorEq, false_or]
            · have e16 : (ibits .and .u64 (ibits .or .u64 (wordP u2) (wordP (u2.extract 8 u2.size))) 9259542123273814144 == 0) = false := by simpa [c16] using k16
              have hB : skipB u2 = u2 := by unfold skipB; rw [if_neg (by intro h; exact k16 h.2)]
              refine gc1 (an hsb (an q1 (an hu (an d8 (an e8 (an hu2 (an d16 (an e16 tt)))))))) (an w8.go (an w16.go (an w17.go tt))) tt tt ⟨?_⟩
              obtain ⟨n1, n2, n3⟩ := next u2 (hA.trans hB)
              refine ⟨k, (k, u2, gg), by omega, ⟨rfl, n1, n2, n3⟩, ?_, rfl⟩
              simp only [ms54_0, putAll, blank, List.foldl_cons, List.foldl_nil, List.set_cons_succ, List.set_cons_zero, List.cons_append, List.nil_append, ALe, true_or, or_true, and_true, true_and, eq_self, reduceCtorEq, false_or]
          · have d16 : decide ((u2.size : Int) > 16) = false := by rw [decide_eq_false_iff_not]; omega
            have hB : skipB u2 = u2 := by unfold skipB; rw [if_neg (by intro h; exact g16 h.1)]
            refine gc1 (an hsb (an q1 (an hu (an d8 (an e8 (an hu2 (an d16 tt))))))) (an w8.go tt) tt tt ⟨?_⟩
            obtain ⟨n1, n2, n3⟩ := next u2 (hA.trans hB)
            refine ⟨k, (k, u2, gg), by omega, ⟨rfl, n1, n2, n3⟩, ?_, rfl⟩
            simp only [ms54_0, putAll, blank, List.foldl_cons, List.foldl_nil, List.set_cons_succ, List.set_cons_zero, List.cons_append, List.nil_append, ALe, true_or, or_true, and_true, true_and, eq_self, reduceCtorEq, false_or]
        · have e8 : (ibits .and .u64 (wordP u) 9259542123273814144 == 0) = false := by simpa [c8] using k8
          have hA : skipA u = u := by unfold skipA; rw [if_neg (by intro h; exact k8 h.2)]
          refine gc1 (an hsb (an q1 (an hu (an d8 (an e8 tt))))) (an w8.go tt) tt tt ⟨?_⟩
          obtain ⟨n1, n2, n3⟩ := next u hA
          refine ⟨k, (k, u, gg), by omega, ⟨rfl, n1, n2, n3⟩, ?_, rfl⟩
          simp only [ms54_0, putAll, blank, List.foldl_cons, List.foldl_nil, List.set_cons_succ, List.set_cons_zero, List.cons_append, List.nil_append, ALe, true_or, or_true, and_true, true_and, eq_self, reduceCtorEq, false_or]
      · have d8 : decide ((u.size : Int) > 8) = false := by rw [decide_eq_false_iff_not]; omega
        have hA : skipA u = u := by unfold skipA; rw [if_neg (by intro h; exact g8 h.1)]
        refine gc1 (an hsb (an q1 (an hu (an d8 tt)))) tt tt tt ⟨?_⟩
        obtain ⟨n1, n2, n3⟩ := next u hA
        refine ⟨k, (k, u, gg), by omega, ⟨rfl, n1, n2, n3⟩, ?_, rfl⟩
        simp only [ms54_0, putAll, blank, List.foldl_cons, List.foldl_nil, List.set_cons_succ, List.set_cons_zero, List.cons_append, List.nil_append, ALe, true_or, or_true, and_true, true_and, eq_self, reduceCtorEq, false_or]
    · have q1 : decide (b < 128) = false := by rw [decide_eq_false_iff_not]; omega
      have hnb : ¬ bq t 0 < 128 := by rw [hb0]; exact h128
      have hfi := first_in b.toNat (by omega)
      obtain ⟨f, hf⟩ : ∃ f : Nat, lay_unicode_utf8_first.getD b.toNat 0 = (f : Int) := ⟨(lay_unicode_utf8_first.getD b.toNat 0).toNat, by omega⟩
      have hfst : fstB t = (f : Int) := by unfold fstB; rw [hb0, hf]
      rw [hf] at hfi
      have hlen : lay_unicode_utf8_first.length = 256 := by decide +kernel
      have hlen2 : lay_unicode_utf8_acceptRanges.length = 32 := rfl
      obtain ⟨p, hp⟩ : ∃ p, f / 16 = p := ⟨_, rfl⟩
      have sh : shrI .u8 (f : Int) 4 = (p : Int) := by rw [shrI_le _ _ _ (by decide), ← hp]; rfl
      have hpl : p < 16 := by omega
      have hac := acc_in p hpl
      have hlo0 : loB t = lay_unicode_utf8_acceptRanges.getD (p * 2) 0 := by unfold loB; rw [hfst, ← hp]; rfl
      have hhi0 : hiB t = lay_unicode_utf8_acceptRanges.getD (p * 2 + 1) 0 := by unfold hiB; rw [hfst, ← hp]; rfl
      obtain ⟨lo, hlo⟩ : ∃ v, lay_unicode_utf8_acceptRanges.getD (p * 2) 0 = v := ⟨_, rfl⟩
      obtain ⟨hi, hhi⟩ : ∃ v, lay_unicode_utf8_acceptRanges.getD (p * 2 + 1) 0 = v := ⟨_, rfl⟩
      rw [hlo] at hlo0
      rw [hhi] at hhi0
      rw [hlo, hhi] at hac
      obtain ⟨n, hn⟩ : ∃ n, IntKind.i64.wrap (ibits .and .u8 (f : Int) 7) = n := ⟨_, rfl⟩
      have hcn : cntB t = n := by unfold cntB; rw [hfst, hn]
      obtain ⟨b1, hb1⟩ : ∃ v, bq t 1 = v := ⟨_, rfl⟩
      obtain ⟨b2, hb2⟩ : ∃ v, bq t 2 = v := ⟨_, rfl⟩
      obtain ⟨b3, hb3⟩ : ∃ v, bq t 3 = v := ⟨_, rfl⟩
      have hs1 : ((t.data.toList.getD 1 0).toNat : Int) = b1 := hb1
      have hs2 : ((t.data.toList.getD 2 0).toNat : Int) = b2 := hb2
      have hs3 : ((t.data.toList.getD 3 0).toNat : Int) = b3 := hb3
      have bad : stepN t = none → V = false := fun h => by rw [← hinv, vsF_bad k t ht0 hnb h]
      have good : ∀ q, 0 < q → stepN t = some q → (rst t q).size < k ∧ (rst t q).size ≤ 9223372036854775807 ∧ vsF k (rst t q) = V := fun q hq h => by
        rw [vsF_some k q t ht0 hnb h] at hinv
        have := rst_size t q
        exact ⟨by omega, by omega, hinv⟩
      repeat (first
        | (with_reducible refine lops_step fun K hK => ?_; simp (disch := first | exact dch | fail) only [go_sem, Nat.reduceAdd, Nat.reduceSub, reduceIte, Nat.reduceEqDiff, Int.reduceToNat, Int.reduceBEq, Int.reduceBNe, hsb, q1, hlen, hf, sh, hlen2, hac, hn, get_concat, set_concat]; (try (first | (refine And.intro (fun _ => ?_) (fun h => absurd h (by decide))) | (refine And.intro (fun h => absurd h (by decide)) (fun _ => ?_)))); (repeat (with_reducible refine And.intro acl ?_)); (first | (refine hK _ _ ?_) | (refine ⟨_, rfl, hK _ _ ?_⟩) | (refine Or.inl (hK _ _ ?_))); clear hK K)
        | (with_reducible refine lops_nil ?_)
        | (with_reducible first | refine lavc_reg ?_ | refine lavc_seq ?_ | refine lavc_block ?_ | refine lavc_skip ?_ | refine lavc_exit ?_ | refine lavc_ret ?_ | refine lavcR_round ?_)
        | (refine lavc_cond rfl (fun _ => ?_) (fun hc => absurd hc (by decide)))
        | (refine lavc_cond rfl (fun hc => absurd hc (by decide)) (fun _ => ?_))
        | (simp only [↓reduceIte, Nat.reduceEqDiff, reduceCtorEq]))
      refine lavc_cond rfl (fun hc => ?_) (fun hc => ?_)
      · have n2 : n = 2 := by simpa using hc
        by_cases s0 : t.size < 2
        · have d0 : decide ((t.size : Int) < 2) = true := by rw [decide_eq_true_eq]; omega
          have hst : stepN t = none := by unfold stepN; rw [hcn, if_pos n2, hlo0, hhi0, hb1, if_pos (by omega)]
          rw [bad hst]
          refine gc1 (an d0 (an hs1 (an hs2 (an hs3 tt)))) tt tt tt ⟨?_⟩
          refine And.intro (by simp) ?_
          simp (disch := first | exact dch | fail) only [go_sem, Nat.reduceAdd, Nat.reduceSub, reduceIte, Nat.reduceEqDiff, Int.reduceToNat, Int.reduceBEq, Int.reduceBNe, aret, aretL, aret1, aenv]
          (repeat (with_reducible refine And.intro acl ?_))
          exact end0 (NR.v _) rfl
        have d0 : decide ((t.size : Int) < 2) = false := by rw [decide_eq_false_iff_not]; omega
        by_cases s1 : b1 < lo
        · have d1 : decide (b1 < lo) = true := by rw [decide_eq_true_eq]; omega
          have hst : stepN t = none := by unfold stepN; rw [hcn, if_pos n2, hlo0, hhi0, hb1, if_pos (by omega)]
          rw [bad hst]
          refine gc1 (an d0 (an d1 (an hs1 (an hs2 (an hs3 tt))))) tt tt tt ⟨?_⟩
          refine And.intro (by simp) ?_
          simp (disch := first | exact dch | fail) only [go_sem, Nat.reduceAdd, Nat.reduceSub, reduceIte, Nat.reduceEqDiff, Int.reduceToNat, Int.reduceBEq, Int.reduceBNe, aret, aretL, aret1, aenv]
          (repeat (with_reducible refine And.intro acl ?_))
          exact end0 (NR.v _) rfl
        have d1 : decide (b1 < lo) = false := by rw [decide_eq_false_iff_not]; omega
        by_cases s2 : hi < b1
        · have d2 : decide (hi < b1) = true := by rw [decide_eq_true_eq]; omega
          have hst : stepN t = none := by unfold stepN; rw [hcn, if_pos n2, hlo0, hhi0, hb1, if_pos (by omega)]
          rw [bad hst]
          refine gc1 (an d0 (an d1 (an d2 (an hs1 (an hs2 (an hs3 tt)))))) tt tt tt ⟨?_⟩
          refine And.intro (by simp) ?_
          simp (disch := first | exact dch | fail) only [go_sem, Nat.reduceAdd, Nat.reduceSub, reduceIte, Nat.reduceEqDiff, Int.reduceToNat, Int.reduceBEq, Int.reduceBNe, aret, aretL, aret1, aenv]
          (repeat (with_reducible refine And.intro acl ?_))
          exact end0 (NR.v _) rfl
        have d2 : decide (hi < b1) = false := by rw [decide_eq_false_iff_not]; omega
        have hst : stepN t = some 2 := by unfold stepN; rw [hcn, if_pos n2, hlo0, hhi0, hb1, if_neg (by omega)]
        obtain ⟨m1, m2, m3⟩ := good 2 (by decide) hst
        refine gc1 (an d0 (an d1 (an d2 (an hs1 (an hs2 (an hs3 tt)))))) tt tt tt ⟨?_⟩
        refine ⟨k, (k, rst t 2, gg ++ [⟨ints .u8 [lo, hi], 0, true, 117⟩]), by omega, ⟨rfl, m1, m2, m3⟩, ?_, rfl⟩
        simp only [ms54_0, putAll, blank, List.foldl_cons, List.foldl_nil, List.set_cons_succ, List.set_cons_zero, List.cons_append, List.nil_append, ALe, true_or, or_true, and_true, true_and, eq_self, reduceCtorEq, false_or]
      have n2 : n ≠ 2 := by simpa using hc
      refine gc1 (an hs1 (an hs2 (an hs3 tt))) tt tt tt ⟨?_⟩
      refine lavc_cond rfl (fun hc => ?_) (fun hc => ?_)
      · have n3 : n = 3 := by simpa using hc
        by_cases s0 : t.size < 3
        · have d0 : decide ((t.size : Int) < 3) = true := by rw [decide_eq_true_eq]; omega
          have hst : stepN t = none := by unfold stepN; rw [hcn, if_neg n2, if_pos n3, hlo0, hhi0, hb1, hb2, if_pos (by omega)]
          rw [bad hst]
          refine gc1 (an d0 (an hs1 (an hs2 (an hs3 tt)))) tt tt tt ⟨?_⟩
          refine And.intro (by simp) ?_
          simp (disch := first | exact dch | fail) only [go_sem, Nat.reduceAdd, Nat.reduceSub, reduceIte, Nat.reduceEqDiff, Int.reduceToNat, Int.reduceBEq, Int.reduceBNe, aret, aretL, aret1, aenv]
          (repeat (with_reducible refine And.intro acl ?_))
          exact end0 (NR.v _) rfl
        have d0 : decide ((t.size : Int) < 3) = false := by rw [decide_eq_false_iff_not]; omega
        by_cases s1 : b1 < lo
        · have d1 : decide (b1 < lo) = true := by rw [decide_eq_true_eq]; omega
          have hst : stepN t = none := by unfold stepN; rw [hcn, if_neg n2, if_pos n3, hlo0, hhi0, hb1, hb2, if_pos (by omega)]
          rw [bad hst]
          refine gc1 (an d0 (an d1 (an hs1 (an hs2 (an hs3 tt))))) tt tt tt ⟨?_⟩
          refine And.intro (by simp) ?_
          simp (disch := first | exact dch | fail) only [go_sem, Nat.reduceAdd, Nat.reduceSub, reduceIte, Nat.reduceEqDiff, Int.reduceToNat, Int.reduceBEq, Int.reduceBNe, aret, aretL, aret1, aenv]
          (repeat (with_reducible refine And.intro acl ?_))
          exact end0 (NR.v _) rfl
        have d1 : decide (b1 < lo) = false := by rw [decide_eq_false_iff_not]; omega
        by_cases s2 : hi < b1
        · have d2 : decide (hi < b1) = true := by rw [decide_eq_true_eq]; omega
          have hst : stepN t = none := by unfold stepN; rw [hcn, if_neg n2, if_pos n3, hlo0, hhi0, hb1, hb2, if_pos (by omega)]
          rw [bad hst]
          refine gc1 (an d0 (an d1 (an d2 (an hs1 (an hs2 (an hs3 tt)))))) tt tt tt ⟨?_⟩
          refine And.intro (by simp) ?_
          simp (disch := first | exact dch | fail) only [go_sem, Nat.reduceAdd, Nat.reduceSub, reduceIte, Nat.reduceEqDiff, Int.reduceToNat, Int.reduceBEq, Int.reduceBNe, aret, aretL, aret1, aenv]
          (repeat (with_reducible refine And.intro acl ?_))
          exact end0 (NR.v _) rfl
        have d2 : decide (hi < b1) = false := by rw [decide_eq_false_iff_not]; omega
        by_cases s3 : b2 < 128
        · have d3 : decide (b2 < 128) = true := by rw [decide_eq_true_eq]; omega
          have hst : stepN t = none := by unfold stepN; rw [hcn, if_neg n2, if_pos n3, hlo0, hhi0, hb1, hb2, if_pos (by omega)]
          rw [bad hst]
          refine gc1 (an d0 (an d1 (an d2 (an d3 (an hs1 (an hs2 (an hs3 tt))))))) tt tt tt ⟨?_⟩
          refine And.intro (by simp) ?_
          simp (disch := first | exact dch | fail) only [go_sem, Nat.reduceAdd, Nat.reduceSub, reduceIte, Nat.reduceEqDiff, Int.reduceToNat, Int.reduceBEq, Int.reduceBNe, aret, aretL, aret1, aenv]
          (repeat (with_reducible refine And.intro acl ?_))
          exact end0 (NR.v _) rfl
        have d3 : decide (b2 < 128) = false := by rw [decide_eq_false_iff_not]; omega
        by_cases s4 : 191 < b2
        · have d4 : decide (191 < b2) = true := by rw [decide_eq_true_eq]; omega
          have hst : stepN t = none := by unfold stepN; rw [hcn, if_neg n2, if_pos n3, hlo0, hhi0, hb1, hb2, if_pos (by omega)]
          rw [bad hst]
          refine gc1 (an d0 (an d1 (an d2 (an d3 (an d4 (an hs1 (an hs2 (an hs3 tt)))))))) tt tt tt ⟨?_⟩
          refine And.intro (by simp) ?_
          simp (disch := first | exact dch | fail) only [go_sem, Nat.reduceAdd, Nat.reduceSub, reduceIte, Nat.reduceEqDiff, Int.reduceToNat, Int.reduceBEq, Int.reduceBNe, aret, aretL, aret1, aenv]
          (repeat (with_reducible refine And.intro acl ?_))
          exact end0 (NR.v _) rfl
        have d4 : decide (191 < b2) = false := by rw [decide_eq_false_iff_not]; omega
        have hst : stepN t = some 3 := by unfold stepN; rw [hcn, if_neg n2, if_pos n3, hlo0, hhi0, hb1, hb2, if_neg (by omega)]
        obtain ⟨m1, m2, m3⟩ := good 3 (by decide) hst
        refine gc1 (an d0 (an d1 (an d2 (an d3 (an d4 (an hs1 (an hs2 (an hs3 tt)))))))) tt tt tt ⟨?_⟩
        refine ⟨k, (k, rst t 3, gg ++ [⟨ints .u8 [lo, hi], 0, true, 117⟩]), by omega, ⟨rfl, m1, m2, m3⟩, ?_, rfl⟩
        simp only [ms54_0, putAll, blank, List.foldl_cons, List.foldl_nil, List.set_cons_succ, List.set_cons_zero, List.cons_append, List.nil_append, ALe, true_or, or_true, and_true, true_and, eq_self, reduceCtorEq, false_or]
      have n3 : n ≠ 3 := by simpa using hc
      refine gc1 (an hs1 (an hs2 (an hs3 tt))) tt tt tt ⟨?_⟩
      refine lavc_cond rfl (fun hc => ?_) (fun hc => ?_)
      · have n4 : n = 4 := by simpa using hc
        by_cases s0 : t.size < 4
        · have d0 : decide ((t.size : Int) < 4) = true := by rw [decide_eq_true_eq]; omega
          have hst : stepN t = none := by unfold stepN; rw [hcn, if_neg n2, if_neg n3, if_pos n4, hlo0, hhi0, hb1, hb2, hb3, if_pos (by omega)]
          rw [bad hst]
          refine gc1 (an d0 (an hs1 (an hs2 (an hs3 tt)))) tt tt tt ⟨?_⟩
          refine And.intro (by simp) ?_
          simp (disch := first | exact dch | fail) only [go_sem, Nat.reduceAdd, Nat.reduceSub, reduceIte, Nat.reduceEqDiff, Int.reduceToNat, Int.reduceBEq, Int.reduceBNe, aret, aretL, aret1, aenv]
          (repeat (with_reducible refine And.intro acl ?_))
          exact end0 (NR.v _) rfl
        have d0 : decide ((t.size : Int) < 4) = false := by rw [decide_eq_false_iff_not]; omega
        by_cases s1 : b1 < lo
        · have d1 : decide (b1 < lo) = true := by rw [decide_eq_true_eq]; omega
          have hst : stepN t = none := by unfold stepN; rw [hcn, if_neg n2, if_neg n3, if_pos n4, hlo0, hhi0, hb1, hb2, hb3, if_pos (by omega)]
          rw [bad hst]
          refine gc1 (an d0 (an d1 (an hs1 (an hs2 (an hs3 tt))))) tt tt tt ⟨?_⟩
          refine And.intro (by simp) ?_
          simp (disch := first | exact dch | fail) only [go_sem, Nat.reduceAdd, Nat.reduceSub, reduceIte, Nat.reduceEqDiff, Int.reduceToNat, Int.reduceBEq, Int.reduceBNe, aret, aretL, aret1, aenv]
          (repeat (with_reducible refine And.intro acl ?_))
          exact end0 (NR.v _) rfl
        have d1 : decide (b1 < lo) = false := by rw [decide_eq_false_iff_not]; omega
        by_cases s2 : hi < b1
        · have d2 : decide (hi < b1) = true := by rw [decide_eq_true_eq]; omega
          have hst : stepN t = none := by unfold stepN; rw [hcn, if_neg n2, if_neg n3, if_pos n4, hlo0, hhi0, hb1, hb2, hb3, if_pos (by omega)]
          rw [bad hst]
          refine gc1 (an d0 (an d1 (an d2 (an hs1 (an hs2 (an hs3 tt)))))) tt tt tt ⟨?_⟩
          refine And.intro (by simp) ?_
          simp (disch := first | exact dch | fail) only [go_sem, Nat.reduceAdd, Nat.reduceSub, reduceIte, Nat.reduceEqDiff, Int.reduceToNat, Int.reduceBEq, Int.reduceBNe, aret, aretL, aret1, aenv]
          (repeat (with_reducible refine And.intro acl ?_))
          exact end0 (NR.v _) rfl
        have d2 : decide (hi < b1) = false := by rw [decide_eq_false_iff_not]; omega
        by_cases s3 : b2 < 128
        · have d3 : decide (b2 < 128) = true := by rw [decide_eq_true_eq]; omega
          have hst : stepN t = none := by unfold stepN; rw [hcn, if_neg n2, if_neg n3, if_pos n4, hlo0, hhi0, hb1, hb2, hb3, if_pos (by omega)]
          rw [bad hst]
          refine gc1 (an d0 (an d1 (an d2 (an d3 (an hs1 (an hs2 (an hs3 tt))))))) tt tt tt ⟨?_⟩
          refine And.intro (by simp) ?_
          simp (disch := first | exact dch | fail) only [go_sem, Nat.reduceAdd, Nat.reduceSub, reduceIte, Nat.reduceEqDiff, Int.reduceToNat, Int.reduceBEq, Int.reduceBNe, aret, aretL, aret1, aenv]
          (repeat (with_reducible refine And.intro acl ?_))
          exact end0 (NR.v _) rfl
        have d3 : decide (b2 < 128) = false := by rw [decide_eq_false_iff_not]; omega
        by_cases s4 : 191 < b2
        · have d4 : decide (191 < b2) = true := by rw [decide_eq_true_eq]; omega
          have hst : stepN t = none := by unfold stepN; rw [hcn, if_neg n2, if_neg n3, if_pos n4, hlo0, hhi0, hb1, hb2, hb3, if_pos (by omega)]
          rw [bad hst]
          refine gc1 (an d0 (an d1 (an d2 (an d3 (an d4 (an hs1 (an hs2 (an hs3 tt)))))))) tt tt tt ⟨?_⟩
          refine And.intro (by simp) ?_
          simp (disch := first | exact dch | fail) only [go_sem, Nat.reduceAdd, Nat.reduceSub, reduceIte, Nat.reduceEqDiff, Int.reduceToNat, Int.reduceBEq, Int.reduceBNe, aret, aretL, aret1, aenv]
          (repeat (with_reducible refine And.intro acl ?_))
          exact end0 (NR.v _) rfl
        have d4 : decide (191 < b2) = false := by rw [decide_eq_false_iff_not]; omega
        by_cases s5 : b3 < 128
        · have d5 : decide (b3 < 128) = true := by rw [decide_eq_true_eq]; omega
          have hst : stepN t = none := by unfold stepN; rw [hcn, if_neg n2, if_neg n3, if_pos n4, hlo0, hhi0, hb1, hb2, hb3, if_pos (by omega)]
          rw [bad hst]
          refine gc1 (an d0 (an d1 (an d2 (an d3 (an d4 (an d5 (an hs1 (an hs2 (an hs3 tt))))))))) tt tt tt ⟨?_⟩
          refine And.intro (by simp) ?_
          simp (disch := first | exact dch | fail) only [go_sem, Nat.reduceAdd, Nat.reduceSub, reduceIte, Nat.reduceEqDiff, Int.reduceToNat, Int.reduceBEq, Int.reduceBNe, aret, aretL, aret1, aenv]
          (repeat (with_reducible refine And.intro acl ?_))
          exact end0 (NR.v _) rfl
        have d5 : decide (b3 < 128) = false := by rw [decide_eq_false_iff_not]; omega
        by_cases s6 : 191 < b3
        · have d6 : decide (191 < b3) = true := by rw [decide_eq_true_eq]; omega
          have hst : stepN t = none := by unfold stepN; rw [hcn, if_neg n2, if_neg n3, if_pos n4, hlo0, hhi0, hb1, hb2, hb3, if_pos (by omega)]
          rw [bad hst]
          refine gc1 (an d0 (an d1 (an d2 (an d3 (an d4 (an d5 (an d6 (an hs1 (an hs2 (an hs3 tt)))))))))) tt tt tt ⟨?_⟩
          refine And.intro (by simp) ?_
          simp (disch := first | exact dch | fail) only [go_sem, Nat.reduceAdd, Nat.reduceSub, reduceIte, Nat.reduceEqDiff, Int.reduceToNat, Int.reduceBEq, Int.reduceBNe, aret, aretL, aret1, aenv]
          (repeat (with_reducible refine And.intro acl ?_))
          exact end0 (NR.v _) rfl
        have d6 : decide (191 < b3) = false := by rw [decide_eq_false_iff_not]; omega
        have hst : stepN t = some 4 := by unfold stepN; rw [hcn, if_neg n2, if_neg n3, if_pos n4, hlo0, hhi0, hb1, hb2, hb3, if_neg (by omega)]
        obtain ⟨m1, m2, m3⟩ := good 4 (by decide) hst
        refine gc1 (an d0 (an d1 (an d2 (an d3 (an d4 (an d5 (an d6 (an hs1 (an hs2 (an hs3 tt)))))))))) tt tt tt ⟨?_⟩
        refine ⟨k, (k, rst t 4, gg ++ [⟨ints .u8 [lo, hi], 0, true, 117⟩]), by omega, ⟨rfl, m1, m2, m3⟩, ?_, rfl⟩
        simp only [ms54_0, putAll, blank, List.foldl_cons, List.foldl_nil, List.set_cons_succ, List.set_cons_zero, List.cons_append, List.nil_append, ALe, true_or, or_true, and_true, true_and, eq_self, reduceCtorEq, false_or]
      have n4 : n ≠ 4 := by simpa using hc
      have hst : stepN t = none := by unfold stepN; rw [hcn, if_neg n2, if_neg n3, if_neg n4]
      rw [bad hst]
      refine gc1 (an hs1 (an hs2 (an hs3 tt))) tt tt tt ⟨?_⟩
      refine And.intro (by simp) ?_
      simp (disch := first | exact dch | fail) only [go_sem, Nat.reduceAdd, Nat.reduceSub, reduceIte, Nat.reduceEqDiff, Int.reduceToNat, Int.reduceBEq, Int.reduceBNe, aret, aretL, aret1, aenv]
      (repeat (with_reducible refine And.intro acl ?_))
      exact end0 (NR.v _) rfl
  · obtain rfl : V = true := by rw [← hinv, vsF_end k t (by omega)]
    refine gc1 tt tt tt tt ⟨?_⟩
    refine And.intro (by simp) ?_
    simp (disch := first | exact dch | fail) only [go_sem, Nat.reduceAdd, Nat.reduceSub, reduceIte, Nat.reduceEqDiff, Int.reduceToNat, Int.reduceBEq, Int.reduceBNe, aret, aretL, aret1, aenv]
    (repeat (with_reducible refine And.intro acl ?_))
    exact end0 (NR.v _) rfl
end Go.Abs.S
namespace Go.Abs
open Go.RowKit
set_option linter.unusedVariables false
set_option linter.unusedSimpArgs false
variable {P : Program} {G : Glob} {σ : Sig} {H : AHeap} {w : World}
/-- The range over a function in a code. -/
def rfOf : Code → Option (Operand × Array Tmp × Code × Code)
  | .rangeFunc g ps a b => some (g, ps, a, b)
  | .seq x y => (rfOf x).orElse fun _ => rfOf y
  | .cond _ x y => (rfOf x).orElse fun _ => rfOf y
  | .block _ c => rfOf c
  | .loop c => rfOf c
  | _ => none
theorem AR.monoC {σ : Sig} {w w' : World} (hc : ∀ B o v, w.cell? ⟨B, o, none⟩ = some v → w'.cell? ⟨B, o, none⟩ = some v) {x : AV} {u : Value} (h : AR σ w x u) : AR σ w' x u := by
  induction h with
  | any u => exact .any u
  | v x => exact .v x
  | ptr h => exact .ptr h
  | sl h hc hx hl => exact .sl h hc hx hl
  | sl0 A => exact .sl0 A
  | vptr B o u hr hm _ ih => exact .vptr B o u hr (fun j hj => hc _ _ _ (hm j hj)) ih
  | vsl B o cap' u hr hm _ hl hx ih => exact .vsl B o cap' u hr (fun j hj => hc _ _ _ (hm j hj)) ih hl hx
  | vsl0 A cap' hx => exact .vsl0 A cap' hx
  | agg us hl _ ih => exact .agg us hl ih
  | tup us hl _ ih => exact .tup us hl ih
  | fn us hl _ ih => exact .fn us hl ih
  | ifc _ ih => exact .ifc ih
  | ub b => exact .ub b
  | bsl0 => exact .bsl0
  | bsl h h0 hc hl => exact .bsl h h0 hc hl
  | usd0 p => exact .usd0 p
  | usd h => exact .usd h
  | bad0 => exact .bad0
  | bad h => exact .bad h
/-- Another object than cells comes up, or is turned. -/
theorem Rel.grow (r : Rel G σ H w) {w' : World} {row : Option Nat} (hg : w.grownBy w' row) (hr : ∀ k, row = some k → ∃ o : Obj, w.heap[k]? = some o ∧ o.isCells = false) : Rel G σ H w' ∧ ∀ x u, AR σ w x u → AR σ w' x u := by
  have hcell : ∀ (B : Nat) (C : Array Value) (T : TypeId) (fr : Nat × Nat), w.heap[B]? = some (Obj.cells C T fr) → w'.heap[B]? = some (Obj.cells C T fr) := fun B C T fr h => by
    refine (hg.block B (Array.getElem?_eq_some_iff.1 h).1 fun e => ?_).trans h
    obtain ⟨o, h1, h2⟩ := hr B e.symm
    rw [h] at h1
    cases h1
    cases h2
  have hc : ∀ B o v, w.cell? ⟨B, o, Option.none⟩ = some v → w'.cell? ⟨B, o, Option.none⟩ = some v := fun B o v h => by
    have e : w'.heap[B]? = w.heap[B]? := by
      cases hB : w.heap[B]? with
      | none => simp [World.cell?, hB] at h
      | some ob =>
        cases ob with
        | cells C T fr => exact hcell B C T fr hB
        | _ => simp [World.cell?, hB] at h
    rw [World.cell?_of_block (a := ⟨B, o, Option.none⟩) e]
    exact h
  have hm : ∀ x u, AR σ w x u → AR σ w' x u := fun x u h => h.monoC hc
  refine ⟨⟨fun b k l h1 h2 h3 => ?_, r.inj, r.apart, fun B hB => Nat.lt_of_lt_of_le (r.roLt B hB) hg.size, r.fresh, fun g => hm _ _ (r.glob g), r.base0⟩, hm⟩
  obtain ⟨C, fr, c1, c2, c3, c4, c5⟩ := r.blk b k l h1 h2 h3
  refine ⟨C, fr, hcell _ _ _ _ c1, c2, c3, c4, fun j hj => ?_⟩
  obtain ⟨v, e1, e2⟩ := c5 j hj
  exact ⟨v, e1, hm _ _ e2⟩
theorem Ext.grow {σ0 : Sig} {H0 : AHeap} {w0 : World} (x : Ext σ0 H0 w0 σ H w) {w' : World} {row : Option Nat} (hg : w.grownBy w' row) (hr : ∀ k, row = some k → w0.heap.size ≤ k) : Ext σ0 H0 w0 σ H w' :=
  ⟨hg.os.trans x.os, hg.tape.trans x.tape, hg.output.trans x.output, Nat.le_trans x.size hg.size, x.ρ, x.ro, fun B hB hn => (hg.block B (Nat.lt_of_lt_of_le hB x.size) fun e => by have := hr B e.symm; omega).trans (x.frame B hB hn), x.new, x.stay, x.roNew, x.len⟩
/-- What is no cells, stays. -/
theorem Ext.keeps {σ0 : Sig} {H0 : AHeap} {w0 : World} (r : Rel G σ0 H0 w0) (x : Ext σ0 H0 w0 σ H w) : KeepsOthers w0 w := ⟨x.size, fun k o hk ho => by
  refine (x.frame k (Array.getElem?_eq_some_iff.1 hk).1 fun ⟨b, kb, l, h1, h2, h3, e⟩ => ?_).trans hk
  obtain ⟨C, fr, c1, _⟩ := r.blk b kb l h1 h2 h3
  rw [e, hk] at c1
  cases c1
  cases ho⟩
theorem wpList_ndef {ops : Array Oper} {Q : Exit → Act → World → Prop} (hq : ∀ a' w', Q .normal a' w' → a'.defers = []) : ∀ {l : List Oper} {a : Act} {w : World}, wpList P ops (nrm Q) l a w → a.defers = []
  | [], a, w, h => hq _ _ h.2
  | o :: rest, a, w, h => by
    have hput : ∀ v w', wpList P ops (nrm Q) rest (a.put o.dst v) w' → a.defers = [] := fun v w' h => (Act.put_def _ _ _).symm.trans (wpList_ndef hq h)
    unfold wpList at h
    split at h
    · rcases h with h | h
      · unfold Oper.wp at h
        generalize (execOp a.eval o).run P w = r at *
        match r, h with
        | .ok (.value v) w', h => exact hput v w' h
        | .ok .skip w', h => exact hput _ w' h
        | .ok (.defer d) w', h =>
          have := (Act.put_def _ _ _).symm.trans (wpList_ndef hq h)
          cases this
        | .ok (.enter f args) w', h =>
          obtain ⟨e, w'', _, hR, _⟩ := h []
          cases e with
          | returned v => exact hput v w'' hR
          | panicked c => cases hR.1
          | outgrown => exact absurd hR nrm_out
        | .ok (.row row args) w', h =>
          obtain ⟨v, w'', hR, _⟩ := h default []
          exact hput v w'' hR
        | .halt (.panic v) w', h => cases h.1
      · exact absurd h.2 nrm_out
    · exact hput _ w h
/-- Operations that defer nothing do not look at what is deferred. -/
theorem wpList_def {ops : Array Oper} {Q : Exit → Act → World → Prop} (ds : List Deferred) (hq : ∀ a' w', Q .normal a' w' → a'.defers = []) : ∀ {l : List Oper} {a : Act} {w : World}, wpList P ops (nrm Q) l a w →
    wpList P ops (nrm fun e a' w' => ∃ a0, Q e a0 w' ∧ a' = { a0 with defers := ds }) l { a with defers := ds } w
  | [], a, w, h => ⟨rfl, a, h.2, rfl⟩
  | o :: rest, a, w, h => by
    have next : ∀ v w', wpList P ops (nrm Q) rest (a.put o.dst v) w' → wpList P ops (nrm fun e a' w' => ∃ a0, Q e a0 w' ∧ a' = { a0 with defers := ds }) rest (({ a with defers := ds } : Act).put o.dst v) w' := fun v w' h => by
      have hput : ({ a with defers := ds } : Act).put o.dst v = { a.put o.dst v with defers := ds } := by cases o.dst <;> rfl
      rw [hput]
      exact wpList_def ds hq h
    unfold wpList at h ⊢
    have hy : yielded ops ({ a with defers := ds } : Act).tmps = yielded ops a.tmps := rfl
    rw [hy]
    split
    · rename_i hw
      rw [if_pos hw] at h
      rcases h with h | h
      · left
        unfold Oper.wp at h ⊢
        have he : ({ a with defers := ds } : Act).eval = a.eval := rfl
        rw [he]
        generalize (execOp a.eval o).run P w = r at *
        match r, h with
        | .ok (.value v) w', h => exact next _ _ h
        | .ok .skip w', h => exact next _ _ h
        | .ok (.defer d) w', h =>
          have := (Act.put_def _ _ _).symm.trans (wpList_ndef hq h)
          cases this
        | .ok (.enter f args) w', h =>
          refine Calls.mono h fun e w'' he => ?_
          cases e with
          | returned v => exact next _ _ he
          | panicked c => cases he.1
          | outgrown => exact absurd he nrm_out
        | .ok (.row row args) w', h => exact Rows.mono h fun v w'' he => next _ _ he
        | .halt (.panic v) w', h => cases h.1
      · exact absurd h.2 nrm_out
    · rename_i hw
      rw [if_neg hw] at h
      exact next _ _ h
end Go.Abs
namespace Go.Abs.S
open Go.Proofs
set_option maxRecDepth 100000
def impCodF : FuncId → Bool := fun f => f == 20 || f == 22 || f == 35 || f == 51 || f == 67
/-- A round of escutcheon/page.Of. -/
def lcb10 : LCode := .block 1 (.seq (.reg []
  [⟨some 9, Go.Op.move (Go.Operand.tmp 4), none⟩,
  ⟨some 10, Go.Op.call { callee := Go.Callee.builtin Go.Builtin.len, args := #[Go.Operand.tmp 9], argTypes := #[23] }, none⟩,
  ⟨some 11, Go.Op.binOp Go.BinOp.eql 3 (Go.Operand.tmp 10) (Go.Operand.const (Go.Value.int Go.IntKind.i64 2)) 3, none⟩]) (.cond (Go.Operand.tmp 11) (.regl [⟨some 19, Go.Op.fieldAddr 26 (Go.Operand.tmp 3) 3, none⟩,
  ⟨some 20, Go.Op.load 24 (Go.Operand.tmp 19), none⟩,
  ⟨some 21, Go.Op.move (Go.Operand.tmp 4), none⟩,
  ⟨some 22, Go.Op.indexAddr 23 (Go.Operand.tmp 21) (Go.Operand.const (Go.Value.int Go.IntKind.i64 1)), none⟩,
  ⟨some 23, Go.Op.load 9 (Go.Operand.tmp 22), none⟩,
  ⟨some 24, Go.Op.build 26 #[(0, Go.Operand.const (Go.Value.int Go.IntKind.i64 4)), (1, Go.Operand.tmp 23)], none⟩,
  ⟨some 25, Go.Op.buildSlice 24 1 #[(0, Go.Operand.tmp 24)], none⟩,
  ⟨some 27, Go.Op.fieldAddr 26 (Go.Operand.tmp 3) 2, none⟩]
  [⟨some 12, Go.Op.fieldAddr 26 (Go.Operand.tmp 3) 2, none⟩,
  ⟨some 13, Go.Op.load 23 (Go.Operand.tmp 12), none⟩,
  ⟨some 14, Go.Op.move (Go.Operand.tmp 4), none⟩,
  ⟨some 15, Go.Op.indexAddr 23 (Go.Operand.tmp 14) (Go.Operand.const (Go.Value.int Go.IntKind.i64 0)), none⟩,
  ⟨some 16, Go.Op.load 9 (Go.Operand.tmp 15), none⟩,
  ⟨some 17, Go.Op.buildSlice 23 1 #[(0, Go.Operand.tmp 16)], none⟩]
  [⟨some 18, Go.Op.call { callee := Go.Callee.builtin Go.Builtin.append, args := #[Go.Operand.tmp 13, Go.Operand.tmp 17], argTypes := #[23, 23] }, none⟩,
  ⟨some 26, Go.Op.call { callee := Go.Callee.builtin Go.Builtin.append, args := #[Go.Operand.tmp 20, Go.Operand.tmp 25], argTypes := #[24, 24] }, none⟩]
  [⟨none, Go.Op.store 23 (Go.Operand.tmp 27) (Go.Operand.tmp 18), none⟩,
  ⟨some 28, Go.Op.fieldAddr 26 (Go.Operand.tmp 3) 3, none⟩,
  ⟨none, Go.Op.store 24 (Go.Operand.tmp 28) (Go.Operand.tmp 26), none⟩]) (.skip)))
theorem lsb10 : (Tryd.f10.body.bind rfOf).map (fun x => strip Tryd.prog impCodF x.2.2.2) = some lcb10 := by kernel_rfl
end Go.Abs.S
namespace Go.Abs.S
attribute [local go_sem] lguard aopO aop nxL aenv toAV tput aLoad aStore vcells aBin aNilI aUn aAlloc aBox aBuild aBSlice afill aConv isIntT aappZ aCap aArr aMM aMake aSlice bnd3 bnd aFldAddr aFld aIdxAddr aIdx aExt aLen aCopy aEq0 bAV aUb aapp aappQ agh acont List.getD_cons_zero List.getD_cons_succ List.set_cons_zero List.set_cons_succ List.getElem?_cons_zero List.getElem?_cons_succ List.length_cons List.length_nil List.map_cons List.map_nil ints_length if_true if_false Bool.false_eq_true true_and and_true eq_self ne_eq not_false_eq_true not_true_eq_false beq_self_eq_true Nat.zero_add Nat.add_zero Nat.mul_one Nat.zero_mul Int.toNat_natCast List.toList_toArray List.all_cons List.all_nil AV.one Value.oneCell' Bool.and_true Bool.true_and forall_const true_implies false_implies implies_true Option.map_some Option.map_none Option.isSome_some Option.isSome_none imp_self rdP_flat rdP_row splice_one ints_set ints_get List.append_nil List.cons_append List.nil_append List.getElem?_toArray List.drop_zero ints_drop ints_take List.take_of_length_le splice_all ints_one Option.some.injEq Option.getD_some List.length_replicate zArr List.map_replicate rep_ints splice_intsR List.length_set List.length_append List.flatten_replicate_singleton rep_slice rep_string rep_bool rep_iface List.replicate_zero if_pos if_neg List.mapM_cons List.mapM_nil Option.pure_def Option.bind_eq_bind Option.bind_some Bool.true_eq_false Bool.not_false Bool.not_true get_concat set_concat
open Go.Proofs
set_option linter.unusedVariables false
set_option linter.unusedSimpArgs false
set_option maxRecDepth 100000
set_option maxHeartbeats 4000000
abbrev stA (s : ByteArray) : AV := .v (.string s)
abbrev nlA : AV := .v (.slice none 0 0)
abbrev ivC (n : Int) : AV := .v (.int .i64 n)
/-- Values that are texts. -/
def valT (s : ByteArray) : List AV := [ivC 4, stA s, nlA, nlA]
def vals (X : List ByteArray) : List AV := X.flatMap valT
theorem vals_length (X : List ByteArray) : (vals X).length = X.length * 4 := by
  induction X with
  | nil => rfl
  | cons a X ih =>
    have : vals (a :: X) = valT a ++ vals X := rfl
    rw [this, List.length_append, ih]
    simp [valT]
    omega
abbrev zeroV : Blk := ⟨[ivC 0, stA ⟨#[]⟩, nlA, nlA], 0, true, 26⟩
/-- Memory while a page is made. -/
def HP (N X : List ByteArray) : AHeap := if N = [] then [zeroV, ⟨[ivC 6, stA ⟨#[]⟩, nlA, nlA], 0, true, 26⟩]
  else [zeroV, ⟨[ivC 6, stA ⟨#[]⟩, .sl 2 (N.length - 1) 0 N.length N.length 1 false, .sl 3 (N.length - 1) 0 N.length N.length 4 false], 0, true, 26⟩, ⟨strs N, N.length - 1, true, 9⟩, ⟨vals X, N.length - 1, true, 26⟩]
def tB (p : AV) : List AV := [.any, .any, .any, .ptr 1 0 0, p] ++ List.replicate 25 .any
theorem round0 (a b : ByteArray) (c : Option Nat) : lavc Tryd.prog glob lcb10 (tB (.vsl 2 (strs [a, b]) c)) (HP [] []) fun e t H => e = .normal ∧ H = HP [a] [b] := by
  unfold tB HP strs
  simp only [List.map_cons, List.map_nil, if_true, List.replicate_succ, List.replicate_zero, List.cons_append, List.nil_append]
  unfold lcb10
  simp only [List.length_cons, List.length_nil, Nat.reduceAdd, Nat.reduceSub, List.replicate_succ, List.replicate_zero, List.cons_append, List.nil_append]
  refine gc1 tt tt tt tt ⟨?_⟩
  refine lavc_lateq [.ptr 1 0 3, nlA, .vsl 2 [stA a, stA b] c, .vptr [stA a, stA b] 1, stA b, .agg [ivC 4, stA b, nlA, nlA], .vsl 1 [ivC 4, stA b, nlA, nlA] (some 1), .ptr 1 0 2] ?_ ?_ <;> simp only [lputs, tput, List.set_cons_succ, List.set_cons_zero]
  · (simp only [lfreesAt]; repeat (first | exact trivial | (refine And.intro (by unfold lfreeAt; unfold aopO; simp (disch := first | exact dch | fail) only [go_sem, Nat.reduceAdd, Nat.reduceSub, reduceIte, Nat.reduceEqDiff, Int.reduceToNat, Int.reduceBEq, Int.reduceBNe]; (repeat (with_reducible refine And.intro acl ?_)); first | exact ⟨rfl, fun d h => by cases h; rfl⟩ | exact fun d h => by cases h; rfl | exact Or.inr ⟨rfl, fun d h => by cases h; rfl⟩ | exact Or.inr (fun d h => by cases h; rfl) | exact Or.inl ⟨rfl, fun d h => by cases h; rfl⟩) ?_)))
  · refine gs1 tt tt tt tt ⟨?_⟩
    repeat (first
      | ((with_reducible refine lopsF_step ?_ fun K hK => ?_); (case _ => (simp only [lfreesAt]; repeat (first | exact trivial | (refine And.intro (by unfold lfreeAt; unfold aopO; simp (disch := first | exact dch | fail) only [go_sem, Nat.reduceAdd, Nat.reduceSub, reduceIte, Nat.reduceEqDiff, Int.reduceToNat, Int.reduceBEq, Int.reduceBNe]; (repeat (with_reducible refine And.intro acl ?_)); first | exact ⟨rfl, fun d h => by cases h; rfl⟩ | exact fun d h => by cases h; rfl | exact Or.inr ⟨rfl, fun d h => by cases h; rfl⟩ | exact Or.inr (fun d h => by cases h; rfl) | exact Or.inl ⟨rfl, fun d h => by cases h; rfl⟩) ?_)))); with_reducible skip; simp (disch := first | exact dch | fail) only [go_sem, Nat.reduceAdd, Nat.reduceSub, reduceIte, Nat.reduceEqDiff, Int.reduceToNat, Int.reduceBEq, Int.reduceBNe]; (repeat (with_reducible refine And.intro acl ?_)); (first | (refine hK _ _ ?_) | (refine ⟨_, rfl, hK _ _ ?_⟩) | (refine Or.inr (hK _ _ ?_)) | (refine Or.inr ⟨rfl, hK _ _ ?_⟩)); clear hK K)
      | ((with_reducible refine lopsF_nil ?_ ?_); (case _ => (simp only [lfreesAt]; repeat (first | exact trivial | (refine And.intro (by unfold lfreeAt; unfold aopO; simp (disch := first | exact dch | fail) only [go_sem, Nat.reduceAdd, Nat.reduceSub, reduceIte, Nat.reduceEqDiff, Int.reduceToNat, Int.reduceBEq, Int.reduceBNe]; (repeat (with_reducible refine And.intro acl ?_)); first | exact ⟨rfl, fun d h => by cases h; rfl⟩ | exact fun d h => by cases h; rfl | exact Or.inr ⟨rfl, fun d h => by cases h; rfl⟩ | exact Or.inr (fun d h => by cases h; rfl) | exact Or.inl ⟨rfl, fun d h => by cases h; rfl⟩) ?_)))))
      | (with_reducible first | refine lavc_reg ?_ | refine lavc_seq ?_ | refine lavc_block ?_ | refine lavc_skip ?_ | refine lavc_exit ?_ | refine lavc_ret ?_ | refine lavcR_round ?_)
      | (simp only [↓reduceIte, Nat.reduceEqDiff, reduceCtorEq]))
    refine gL1 tt tt tt tt ⟨?_⟩
    exact ⟨trivial, rfl⟩
theorem strs_snoc (N : List ByteArray) (a : ByteArray) : strs N ++ [stA a] = strs (N ++ [a]) := by simp [strs]
theorem vals_snoc (X : List ByteArray) (b : ByteArray) : vals X ++ [ivC 4, stA b, nlA, nlA] = vals (X ++ [b]) := by simp [vals, valT]
theorem round1 (N X : List ByteArray) (h0 : N ≠ []) (hX : X.length = N.length) (hl : N.length ≤ 1000) (a b : ByteArray) (c : Option Nat) : lavc Tryd.prog glob lcb10 (tB (.vsl 2 (strs [a, b]) c)) (HP N X) fun e t H => e = .normal ∧ H = HP (N ++ [a]) (X ++ [b]) := by
  have h1 : N ++ [a] ≠ [] := by simp
  have h2 : 0 < N.length := List.length_pos_iff.2 h0
  unfold tB HP
  rw [if_neg h0, if_neg h1]
  have ls := strs_length N
  have lv := vals_length X
  have s1 := strs_snoc N a
  have v1 := vals_snoc X b
  have ev : N.length - 1 + 1 = (N ++ [a]).length - 1 := by simp; omega
  have el : N.length + 1 = (N ++ [a]).length := by simp
  obtain ⟨M, hM⟩ : ∃ M, (N ++ [a]).length = M := ⟨_, rfl⟩
  obtain ⟨SN, hSN⟩ : ∃ S, strs N = S := ⟨_, rfl⟩
  obtain ⟨SX, hSX⟩ : ∃ S, vals X = S := ⟨_, rfl⟩
  rw [hM] at ev el ⊢
  rw [hSN] at ls s1 ⊢
  rw [hSX] at lv v1 ⊢
  rw [hX] at lv
  obtain ⟨n, hn⟩ : ∃ n, N.length = n := ⟨_, rfl⟩
  rw [hn] at h2 hl ls lv ev el ⊢
  simp only [strs, List.map_cons, List.map_nil, List.replicate_succ, List.replicate_zero, List.cons_append, List.nil_append]
  unfold lcb10
  refine gc1 tt tt tt tt ⟨?_⟩
  refine lavc_lateq [.ptr 1 0 3, .sl 3 (n - 1) 0 n n 4 false, .vsl 2 [stA a, stA b] c, .vptr [stA a, stA b] 1, stA b, .agg [ivC 4, stA b, nlA, nlA], .vsl 1 [ivC 4, stA b, nlA, nlA] (some 1), .ptr 1 0 2] ?_ ?_ <;> simp only [lputs, tput, List.set_cons_succ, List.set_cons_zero]
  · (simp only [lfreesAt]; repeat (first | exact trivial | (refine And.intro (by unfold lfreeAt; unfold aopO; simp (disch := first | exact dch | fail) only [go_sem, Nat.reduceAdd, Nat.reduceSub, reduceIte, Nat.reduceEqDiff, Int.reduceToNat, Int.reduceBEq, Int.reduceBNe, ls, lv]; (repeat (with_reducible refine And.intro acl ?_)); first | exact ⟨rfl, fun d h => by cases h; rfl⟩ | exact fun d h => by cases h; rfl | exact Or.inr ⟨rfl, fun d h => by cases h; rfl⟩ | exact Or.inr (fun d h => by cases h; rfl) | exact Or.inl ⟨rfl, fun d h => by cases h; rfl⟩) ?_)))
  · refine gs1 (an ls (an lv tt)) tt tt tt ⟨?_⟩
    repeat (first
      | ((with_reducible refine lopsF_step ?_ fun K hK => ?_); (case _ => (simp only [lfreesAt]; repeat (first | exact trivial | (refine And.intro (by unfold lfreeAt; unfold aopO; simp (disch := first | exact dch | fail) only [go_sem, Nat.reduceAdd, Nat.reduceSub, reduceIte, Nat.reduceEqDiff, Int.reduceToNat, Int.reduceBEq, Int.reduceBNe, ls, lv, s1, v1, ev, el]; (repeat (with_reducible refine And.intro acl ?_)); first | exact ⟨rfl, fun d h => by cases h; rfl⟩ | exact fun d h => by cases h; rfl | exact Or.inr ⟨rfl, fun d h => by cases h; rfl⟩ | exact Or.inr (fun d h => by cases h; rfl) | exact Or.inl ⟨rfl, fun d h => by cases h; rfl⟩) ?_)))); with_reducible skip; simp (disch := first | exact dch | fail) only [go_sem, Nat.reduceAdd, Nat.reduceSub, reduceIte, Nat.reduceEqDiff, Int.reduceToNat, Int.reduceBEq, Int.reduceBNe, ls, lv, s1, v1, ev, el]; (repeat (with_reducible refine And.intro acl ?_)); (first | (refine hK _ _ ?_) | (refine ⟨_, rfl, hK _ _ ?_⟩) | (refine Or.inr (hK _ _ ?_)) | (refine Or.inr ⟨rfl, hK _ _ ?_⟩)); clear hK K)
      | ((with_reducible refine lopsF_nil ?_ ?_); (case _ => (simp only [lfreesAt]; repeat (first | exact trivial | (refine And.intro (by unfold lfreeAt; unfold aopO; simp (disch := first | exact dch | fail) only [go_sem, Nat.reduceAdd, Nat.reduceSub, reduceIte, Nat.reduceEqDiff, Int.reduceToNat, Int.reduceBEq, Int.reduceBNe, ls, lv, s1, v1, ev, el]; (repeat (with_reducible refine And.intro acl ?_)); first | exact ⟨rfl, fun d h => by cases h; rfl⟩ | exact fun d h => by cases h; rfl | exact Or.inr ⟨rfl, fun d h => by cases h; rfl⟩ | exact Or.inr (fun d h => by cases h; rfl) | exact Or.inl ⟨rfl, fun d h => by cases h; rfl⟩) ?_)))))
      | (with_reducible first | refine lavc_reg ?_ | refine lavc_seq ?_ | refine lavc_block ?_ | refine lavc_skip ?_ | refine lavc_exit ?_ | refine lavc_ret ?_ | refine lavcR_round ?_)
      | (simp only [↓reduceIte, Nat.reduceEqDiff, reduceCtorEq]))
    refine gL1 (an ls (an lv (an s1 (an v1 (an ev (an el tt)))))) tt tt tt ⟨?_⟩
    exact ⟨trivial, rfl⟩
theorem roundX (N X : List ByteArray) (p : List ByteArray) (hp : p.length ≠ 2) (hp2 : p.length ≤ 1000) (c : Option Nat) : lavc Tryd.prog glob lcb10 (tB (.vsl p.length (strs p) c)) (HP N X) fun e t H => e = .normal ∧ H = HP N X := by
  unfold tB
  simp only [List.replicate_succ, List.replicate_zero, List.cons_append, List.nil_append]
  unfold lcb10
  have q : (((p.length : Int) : Int) == 2) = false := by rw [beq_eq_false_iff_ne, ne_eq]; omega
  refine gc1 (an q tt) tt tt tt ⟨?_⟩
  exact ⟨trivial, trivial⟩
end Go.Abs.S
namespace Go.Proofs.YtgmchiadphdlhaaDoor.Chk
open Go.RowKit Go.Shelf
set_option linter.unusedVariables false
set_option linter.unusedSimpArgs false
attribute [local go_sem] Oper.semAt_some
/-- The k-th part of a slice, two by two. -/
def part (B o n k : Nat) : Value := .slice (some ⟨B, o + 2 * k, none⟩) (min 2 (n - 2 * k)) (min 2 (n - 2 * k))
/-- So many parts. -/
def parts (n : Nat) : Nat := (n + 1) / 2
structure Kr (R : Nat → Prop) (W W' : World) : Prop where
  size : W.heap.size ≤ W'.heap.size
  same : ∀ B, R B → W'.heap[B]? = W.heap[B]?
theorem Kr.refl (R : Nat → Prop) (W : World) : Kr R W W := ⟨Nat.le_refl _, fun _ _ => rfl⟩
theorem Kr.trans {R : Nat → Prop} {A B C : World} (h : Kr R A B) (k : Kr R B C) : Kr R A C := ⟨Nat.le_trans h.size k.size, fun b hb => (k.same b hb).trans (h.same b hb)⟩
theorem Kr.cell {R : Nat → Prop} {W W' : World} (h : Kr R W W') {B o : Nat} (h1 : R B) : W'.cell? ⟨B, o, none⟩ = W.cell? ⟨B, o, none⟩ := World.cell?_of_block (h.same B h1)
set_option maxRecDepth 100000 in
set_option maxHeartbeats 2000000 in
theorem chunk1_in (F : Fence) (m : Nat) (h7 : F.fn 38) (hro : F.round = none) (hn : 1 ≤ m) (R : Nat → Prop) (l B0 o0 B1 o1 B o n cap : Nat) (hreach : n ≤ 1000000) (hcap : n ≤ cap) (r0 : R B0) (r1 : R B1) (J Jx : List Nat → World → Prop) (hA : ∀ s W W', J s W → W.grownBy W' none → J s W')
    (hY : ∀ pre y W, J pre W → pre.length < parts n → YieldAt F (m - 1) Tryd.prog l #[part B o n y] W fun e W' =>
      (e = .returned (.bool true) ∧ J (pre ++ [y]) W' ∧ Kr R W W') ∨ (e = .returned (.bool false) ∧ Jx (pre ++ [y]) W'))
    (W : World) (h0 : W.cell? ⟨B0, o0, none⟩ = some (.slice (some ⟨B, o, none⟩) n cap)) (h1 : W.cell? ⟨B1, o1, none⟩ = some (.int .i64 2)) (hJ : J [] W) :
    CallsIn F m Tryd.prog 38 #[.func (.yield l) #[] #[], .pointer (some ⟨B0, o0, none⟩), .pointer (some ⟨B1, o1, none⟩)] W fun e W' => (∃ v, e = .returned v) ∧
      ((∃ ys, ys = List.range (parts n) ∧ J ys W') ∨ (∃ pre, (∃ k, k ≤ parts n ∧ pre = List.range k) ∧ Jx pre W')) := by
  refine callsIn_of_wp Tryd.func38 rfl h7 ?_ hro
  simp only [Tryd.ntmps38, List.size_toArray, List.length_cons, List.length_nil, Nat.reduceAdd, Nat.reduceSub, Array.replicate_succ, Array.replicate_zero, List.push_toArray, List.append_toArray, List.nil_append, List.cons_append]
  gi_wp2
  gi_loopw [4] (fun i wr => ∃ k : Nat, k ≤ parts n ∧ i = .int .i64 (2 * k : Nat) ∧ J (List.range k) wr ∧ Kr R W wr)
    (fun i _ => n + 2 - (intOf i).toNat)
  case atStart => exact ⟨0, Nat.zero_le _, by simp, hJ, Kr.refl _ _⟩
  case round =>
    obtain ⟨k, hk, rfl, hJs, hnx⟩ := hrel
    have c0 := (hnx.cell r0).trans h0
    have c1 := (hnx.cell r1).trans h1
    by_cases hlt : 2 * k < n
    · have hp : k < parts n := by unfold parts; omega
      have hJd : J (List.range k) wr.drew := hA _ _ _ hJs ⟨rfl, rfl, rfl, Nat.le_refl _, fun _ _ _ => rfl⟩
      obtain ⟨fn, tmps, assign, body, hy, hR⟩ := hY _ k wr.drew hJd (by simpa using hp)
      have hmn : (if ((n - 2 * k : Nat) : Int) < 2 then ((n - 2 * k : Nat) : Int) else 2) = ((min 2 (n - 2 * k) : Nat) : Int) := by split <;> omega
      obtain ⟨e, he⟩ : ∃ e, min 2 (n - 2 * k) = e := ⟨_, rfl⟩
      have he1 : 1 ≤ e ∧ e ≤ 2 ∧ 2 * k + e ≤ n := by omega
      unfold part at hy
      rw [he] at hmn hy
      gi_wp2
      gi_region
      gi_wp2
      all_goals
        refine hR.mono ?_
        rintro e' W3 (⟨rfl, hJ3, hk3⟩ | ⟨rfl, hJx3⟩)
        · have c13 := (hk3.cell r1).trans c1
          gi_wp2
          go_roundw
          case rel =>
            refine ⟨k + 1, by omega, ?_, by rw [List.range_succ]; exact hJ3, hnx.trans ((⟨Nat.le_refl _, fun _ _ => rfl⟩ : Kr R wr wr.drew).trans hk3)⟩
            simp only [Value.int.injEq, true_and]
            omega
          case measure =>
            simp [intOf]
            omega
        · gi_wp2
          refine bodyPost_ret (results_none rfl _ _ _) rfl ?_
          exact ⟨⟨_, rfl⟩, .inr ⟨_, ⟨k + 1, by omega, List.range_succ.symm⟩, hJx3⟩⟩
    · gi_wp2
      go_end0
      obtain rfl : k = parts n := by unfold parts at hk ⊢; omega
      exact ⟨⟨_, rfl⟩, .inl ⟨_, rfl, hJs⟩⟩
set_option maxRecDepth 100000 in
set_option maxHeartbeats 1000000 in
theorem chunk1_none (F : Fence) (m : Nat) (h7 : F.fn 38) (hro : F.round = none) (l B0 o0 : Nat) (p1 : Option Addr) (A : Option Addr) (cap : Nat) (J : List Nat → World → Prop) (W : World) (h0 : W.cell? ⟨B0, o0, none⟩ = some (.slice A 0 cap)) (hJ : J [] W) :
    CallsIn F m Tryd.prog 38 #[.func (.yield l) #[] #[], .pointer (some ⟨B0, o0, none⟩), .pointer p1] W fun e W' => (∃ v, e = .returned v) ∧ J [] W' := by
  refine callsIn_of_wp Tryd.func38 rfl h7 ?_ hro
  simp only [Tryd.ntmps38, List.size_toArray, List.length_cons, List.length_nil, Nat.reduceAdd, Nat.reduceSub, Array.replicate_succ, Array.replicate_zero, List.push_toArray, List.append_toArray, List.nil_append, List.cons_append]
  gi_wp2
  gi_loopw [4] (fun i wr => i = .int .i64 0 ∧ J [] wr ∧ wr.cell? ⟨B0, o0, none⟩ = some (.slice A 0 cap)) (fun _ _ => 0)
  case atStart => exact ⟨rfl, hJ, h0⟩
  case round =>
    obtain ⟨rfl, hJs, hc⟩ := hrel
    gi_wp2
    go_end0
    exact ⟨⟨_, rfl⟩, hJs⟩
/-- What Chunk's iterator hands out. -/
theorem chunk_stops (F : Fence) (m : Nat) (h7 : F.fn 38) (hro : F.round = none) (hn : 1 ≤ m) (R : Nat → Prop) (B0 o0 B1 o1 B o n cap : Nat) (hreach : n ≤ 1000000) (hcap : n ≤ cap) (r0 : R B0) (r1 : R B1) (w : World) (hl0 : B0 < w.heap.size) (hl1 : B1 < w.heap.size)
    (h0 : w.cell? ⟨B0, o0, none⟩ = some (.slice (some ⟨B, o, none⟩) n cap)) (h1 : w.cell? ⟨B1, o1, none⟩ = some (.int .i64 2)) :
    SeqStopsK F m Tryd.prog 38 #[.pointer (some ⟨B0, o0, none⟩), .pointer (some ⟨B1, o1, none⟩)] (fun y : Nat => #[part B o n y]) (Kr R) (fun ys => ys = List.range (parts n)) (fun _ => True) (parts n) w := fun l J Jx W hW hA _ hY hJ => by
  have h0' := (hW.cell (p := ⟨B0, o0, none⟩) hl0).trans h0
  have h1' := (hW.cell (p := ⟨B1, o1, none⟩) hl1).trans h1
  refine (chunk1_in F m h7 hro hn R l B0 o0 B1 o1 B o n cap hreach hcap r0 r1 J Jx (fun s A C hs hg => hA s A C none hs hg (fun r e => by cases e)) hY W h0' h1' hJ).mono ?_
  rintro e W' ⟨he, ⟨ys, rfl, hj⟩ | ⟨pre, _, hj⟩⟩
  · exact ⟨he, .inl ⟨_, rfl, hj⟩⟩
  · exact ⟨he, .inr ⟨_, trivial, hj⟩⟩
theorem chunk_stops0 (F : Fence) (m : Nat) (h7 : F.fn 38) (hro : F.round = none) (R : Nat → Prop) (B0 o0 : Nat) (p1 A : Option Addr) (cap : Nat) (v : Nat → Value) (w : World) (hl0 : B0 < w.heap.size)
    (h0 : w.cell? ⟨B0, o0, none⟩ = some (.slice A 0 cap)) :
    SeqStopsK F m Tryd.prog 38 #[.pointer (some ⟨B0, o0, none⟩), .pointer p1] (fun y : Nat => #[v y]) (Kr R) (fun ys => ys = []) (fun _ => True) 0 w := fun l J Jx W hW _ _ _ hJ => by
  have h0' := (hW.cell (p := ⟨B0, o0, none⟩) hl0).trans h0
  exact (chunk1_none F m h7 hro l B0 o0 p1 A cap J W h0' hJ).mono fun e W' ⟨he, hj⟩ => ⟨he, .inl ⟨_, rfl, hj⟩⟩
end Go.Proofs.YtgmchiadphdlhaaDoor.Chk
namespace Go.Abs.S
open Go.Proofs
open Go.Proofs.YtgmchiadphdlhaaDoor.Chk (part parts Kr)
set_option linter.unusedVariables false
set_option linter.unusedSimpArgs false
set_option maxRecDepth 100000
set_option maxHeartbeats 4000000
theorem NR.strs (N : List ByteArray) : ∀ x ∈ strs N, NR x := fun x hx => by
  obtain ⟨s, _, rfl⟩ := List.mem_map.1 hx
  exact NR.v _
theorem NR.valsX (X : List ByteArray) : ∀ x ∈ vals X, NR x := fun x hx => by
  obtain ⟨s, _, hx⟩ := List.mem_flatMap.1 hx
  simp only [valT, List.mem_cons, List.not_mem_nil, or_false] at hx
  rcases hx with rfl | rfl | rfl | rfl <;> exact NR.v _
/-- Chunk, the maker: both arguments are boxed. -/
theorem chunk_w (a : Option Addr) (len cap : Nat) (w : World) : Calls Tryd.prog 23 #[.slice a len cap, .int .i64 2] w fun e w' =>
    e = .returned (.func (.func 38) #[] #[.pointer (some ⟨w.heap.size, 0, none⟩), .pointer (some ⟨w.heap.size + 1, 0, none⟩)]) ∧ w' = (w.alloc (.cells #[.slice a len cap] 23)).alloc (.cells #[.int .i64 2] 3) := by
  refine (callsIn_wide (n := 3)).1 ?_
  refine callsIn_of_wp Tryd.func23 rfl trivial ?_ rfl
  simp only [Tryd.ntmps23, List.size_toArray, List.length_cons, List.length_nil, Nat.reduceAdd, Nat.reduceSub, Array.replicate_succ, Array.replicate_zero, List.push_toArray, List.append_toArray, List.nil_append, List.cons_append]
  gi_wp2
  go_ret
  exact ⟨rfl, rfl⟩
theorem chunk_p (ss : List ByteArray) (c : Option Nat) : PCall Tryd.prog glob 23 [.vsl ss.length (strs ss) c, ivC 2] (.fn (.func 38) [.vptr [.vsl ss.length (strs ss) c] 0, .vptr [ivC 2] 0]) := by
  intro H
  refine ⟨⟨_, Tryd.func23, by kernel_rfl, by kernel_rfl⟩, fun σ w us hu ha rel => ?_⟩
  obtain ⟨u0, u1, rfl⟩ : ∃ u v, us = #[u, v] := by
    obtain ⟨l⟩ := us
    match l, hu with
    | [u, v], _ => exact ⟨u, v, rfl⟩
  have h0 := ha 0 (by simp)
  have h1 := ha 1 (by simp)
  simp only [List.getD_cons_zero, List.getD_cons_succ] at h0 h1
  have e0 : (#[u0, u1] : Array Value).getD 0 undef = u0 := rfl
  have e1 : (#[u0, u1] : Array Value).getD 1 undef = u1 := rfl
  rw [e0] at h0
  rw [e1] at h1
  cases h1
  obtain ⟨A, len, cap, rfl⟩ : ∃ A l c, u0 = .slice A l c := by
    generalize ss.length = n at h0
    generalize strs ss = cs at h0
    cases h0 <;> exact ⟨_, _, _, rfl⟩
  refine (chunk_w A len cap w).mono ?_
  rintro e W ⟨rfl, rfl⟩
  obtain ⟨r1, x1, m1⟩ := rel.seal #[.slice A len cap] 23 (0, 0)
  obtain ⟨w1, hw1⟩ : ∃ w1, w.alloc (.cells #[.slice A len cap] 23) = w1 := ⟨_, rfl⟩
  have hs1 : w1.heap.size = w.heap.size + 1 := by rw [← hw1]; simp
  have hc1 : w1.cell? ⟨w.heap.size, 0, none⟩ = some (.slice A len cap) := by rw [← hw1]; simp only [World.cell?]; rw [World.alloc_heap_new]; rfl
  rw [hw1] at r1 x1 m1 ⊢
  obtain ⟨r2, x2, m2⟩ := r1.seal #[.int .i64 2] 3 (0, 0)
  refine ⟨_, rfl, _, ?_, r2, x1.trans x2, fun _ => ⟨fun B hB => .same ?_, fun _ _ _ h => .inl h⟩⟩
  · refine .fn _ rfl fun j hj => ?_
    match j, hj with
    | 0, _ =>
      refine AR.vptr (off := 0) w.heap.size 0 (fun _ => .slice A len cap) (.inl (.inr rfl)) (fun j hj => ?_) (fun j hj => ?_)
      · obtain rfl : j = 0 := by simpa using hj
        rw [World.cell?_of_block (RowKit.Below.heap_alloc _ _ _ (show w.heap.size < w1.heap.size by omega))]
        exact hc1
      · obtain rfl : j = 0 := by simpa using hj
        exact m2 _ _ (m1 _ _ h0)
    | 1, _ =>
      show AR _ _ (.vptr [ivC 2] 0) (.pointer (some ⟨w.heap.size + 1, 0, none⟩))
      rw [← hs1]
      refine AR.vptr (off := 0) w1.heap.size 0 (fun _ => .int .i64 2) (Or.inr rfl) (fun j hj => ?_) (fun j hj => ?_)
      · obtain rfl : j = 0 := by simpa using hj
        simp only [World.cell?]
        rw [World.alloc_heap_new]
        rfl
      · obtain rfl : j = 0 := by simpa using hj
        exact .v _
  · rw [RowKit.Below.heap_alloc _ _ _ (show B < w1.heap.size by omega), ← hw1, RowKit.Below.heap_alloc _ _ _ hB]
end Go.Abs.S
namespace Go.Abs.S
attribute [local go_sem] lguard aopO aop nxL aenv toAV tput aLoad aStore vcells aBin aNilI aUn aAlloc aBox aBuild aBSlice afill aConv isIntT aappZ aCap aArr aMM aMake aSlice bnd3 bnd aFldAddr aFld aIdxAddr aIdx aExt aLen aCopy aEq0 bAV aUb aapp aappQ agh acont List.getD_cons_zero List.getD_cons_succ List.set_cons_zero List.set_cons_succ List.getElem?_cons_zero List.getElem?_cons_succ List.length_cons List.length_nil List.map_cons List.map_nil ints_length if_true if_false Bool.false_eq_true true_and and_true eq_self ne_eq not_false_eq_true not_true_eq_false beq_self_eq_true Nat.zero_add Nat.add_zero Nat.mul_one Nat.zero_mul Int.toNat_natCast List.toList_toArray List.all_cons List.all_nil AV.one Value.oneCell' Bool.and_true Bool.true_and forall_const true_implies false_implies implies_true Option.map_some Option.map_none Option.isSome_some Option.isSome_none imp_self rdP_flat rdP_row splice_one ints_set ints_get List.append_nil List.cons_append List.nil_append List.getElem?_toArray List.drop_zero ints_drop ints_take List.take_of_length_le splice_all ints_one Option.some.injEq Option.getD_some List.length_replicate zArr List.map_replicate rep_ints splice_intsR List.length_set List.length_append List.flatten_replicate_singleton rep_slice rep_string rep_bool rep_iface List.replicate_zero if_pos if_neg List.mapM_cons List.mapM_nil Option.pure_def Option.bind_eq_bind Option.bind_some Bool.true_eq_false Bool.not_false Bool.not_true get_concat set_concat
open Go.Proofs
open Go.Proofs.YtgmchiadphdlhaaDoor.Chk (parts Kr chunk_stops chunk_stops0)
set_option linter.unusedVariables false
set_option linter.unusedSimpArgs false
set_option maxRecDepth 100000
set_option maxHeartbeats 4000000
noncomputable def ofC : Code := (Tryd.f10.body).getD .skip
theorem ofC_eq : Tryd.f10.body = some ofC := by kernel_rfl
def sq1 : Code → Code
  | .seq a _ => a
  | c => c
def sq2 : Code → Code
  | .seq _ b => b
  | c => c
def lq1 : LCode → LCode
  | .seq a _ => a
  | c => c
def lrg : LCode → List LOp
  | .reg _ post => post
  | _ => []
def lq2 : LCode → LCode
  | .seq _ b => b
  | c => c
def rfB (c : Code) : Code := match rfOf c with
  | some x => x.2.2.2
  | none => .skip
def rfA (c : Code) : Code := match rfOf c with
  | some x => x.2.2.1
  | none => .skip
def opsOf : Code → Array Oper
  | .region _ ops _ => ops
  | _ => #[]
theorem ofC_shape : ofC = .seq (sq1 ofC) (.seq (sq1 (sq2 ofC)) (.seq (.seq (sq1 (sq1 (sq2 (sq2 ofC)))) (.block 0 (.rangeFunc (.tmp 7) #[8] (rfA ofC) (rfB ofC)))) (.seq (sq1 (sq2 (sq2 (sq2 ofC)))) .ret))) := by kernel_rfl
theorem rfA_shape : rfA ofC = .region 3 #[(opsOf (rfA ofC))[0]!] false := by kernel_rfl
theorem rfA_op : (opsOf (rfA ofC))[0]!.op = .assign (.tmp 8) := by kernel_rfl
theorem rfA_dst : (opsOf (rfA ofC))[0]!.dst = some 4 := by kernel_rfl
theorem rfA_guard : (opsOf (rfA ofC))[0]!.guard = none := by kernel_rfl
theorem of_s0 : strip Tryd.prog impCodC (sq1 ofC) = lq1 lc10 := by kernel_rfl
theorem of_s1 : strip Tryd.prog impCodC (sq1 (sq2 ofC)) = lq1 (lq2 lc10) := by kernel_rfl
theorem of_s2 : strip Tryd.prog impCodC (sq1 (sq1 (sq2 (sq2 ofC)))) = lq1 (lq1 (lq2 (lq2 lc10))) := by kernel_rfl
theorem of_s6 : strip Tryd.prog impCodC (sq1 (sq2 (sq2 (sq2 ofC)))) = lq1 (lq2 (lq2 (lq2 lc10))) := by kernel_rfl
theorem of_d6 : sq1 (sq2 (sq2 (sq2 ofC))) = .region 6 (opsOf (sq1 (sq2 (sq2 (sq2 ofC))))) false := by kernel_rfl
theorem of_sb : strip Tryd.prog impCodF (rfB ofC) = lcb10 := by kernel_rfl
/-- The pairs' first and second ones. -/
def pick (ss : List ByteArray) (d : Nat) (pre : List Nat) : List ByteArray := pre.filterMap fun k => if 2 * k + 2 ≤ ss.length then some (ss.getD (2 * k + d) ⟨#[]⟩) else none
def nms (ss : List ByteArray) : List ByteArray := pick ss 0 (List.range (parts ss.length))
def txs (ss : List ByteArray) : List ByteArray := pick ss 1 (List.range (parts ss.length))
theorem pick_snoc (ss : List ByteArray) (d : Nat) (pre : List Nat) (k : Nat) : pick ss d (pre ++ [k]) = if 2 * k + 2 ≤ ss.length then pick ss d pre ++ [ss.getD (2 * k + d) ⟨#[]⟩] else pick ss d pre := by
  unfold pick
  rw [List.filterMap_append]
  by_cases h : 2 * k + 2 ≤ ss.length
  · rw [if_pos h]
    simp [h]
  · rw [if_neg h]
    simp [h]
theorem pick_len (ss : List ByteArray) (d e : Nat) (pre : List Nat) : (pick ss d pre).length = (pick ss e pre).length := by
  induction pre with
  | nil => rfl
  | cons k pre ih =>
    unfold pick at ih ⊢
    rw [List.filterMap_cons, List.filterMap_cons]
    by_cases h : 2 * k + 2 ≤ ss.length
    · rw [if_pos h, if_pos h, List.length_cons, List.length_cons, ih]
    · rw [if_neg h, if_neg h]
      exact ih
theorem pick_le (ss : List ByteArray) (d : Nat) (pre : List Nat) : (pick ss d pre).length ≤ pre.length := List.length_filterMap_le _ _
/-- A page of texts. -/
def pageA (N X : List ByteArray) : AV := .agg [ivC 6, stA ⟨#[]⟩, .vsl N.length (strs N) none, .vsl N.length (vals X) none]
theorem NR.pageA (N X : List ByteArray) : NR (pageA N X) := NR.agg (by
  intro x hx
  simp only [List.mem_cons, List.not_mem_nil, or_false] at hx
  rcases hx with rfl | rfl | rfl | rfl
  · exact NR.v _
  · exact NR.v _
  · exact NR.vsl (NR.strs _)
  · exact NR.vsl (NR.valsX _))
/-- A round, whatever the part. -/
theorem round_any (ss : List ByteArray) (hs : ss.length ≤ 1000) (pre : List Nat) (hp : pre.length ≤ 1000) (k : Nat) (c : Option Nat) :
    lavc Tryd.prog glob lcb10 (tB (.vsl (min 2 (ss.length - 2 * k)) (strs ((ss.drop (2 * k)).take 2)) c)) (HP (pick ss 0 pre) (pick ss 1 pre)) fun e t H => e = .normal ∧ H = HP (pick ss 0 (pre ++ [k])) (pick ss 1 (pre ++ [k])) := by
  have hl : ((ss.drop (2 * k)).take 2).length = min 2 (ss.length - 2 * k) := by rw [List.length_take, List.length_drop]
  rw [pick_snoc, pick_snoc]
  by_cases h : 2 * k + 2 ≤ ss.length
  · rw [if_pos h, if_pos h]
    have e2 : (ss.drop (2 * k)).take 2 = [ss.getD (2 * k + 0) ⟨#[]⟩, ss.getD (2 * k + 1) ⟨#[]⟩] := by
      rw [List.drop_eq_getElem_cons (by omega), List.drop_eq_getElem_cons (by omega)]
      simp only [List.take_succ_cons, List.take_zero, List.getD_eq_getElem?_getD, Nat.add_zero]
      rw [List.getElem?_eq_getElem (by omega), List.getElem?_eq_getElem (by omega)]
      rfl
    rw [e2, show min 2 (ss.length - 2 * k) = 2 from by omega]
    by_cases h0 : pick ss 0 pre = []
    · have h1 : pick ss 1 pre = [] := List.eq_nil_of_length_eq_zero (by rw [pick_len ss 1 0, h0]; rfl)
      rw [h0, h1]
      exact round0 _ _ c
    · exact round1 _ _ h0 (pick_len ss 1 0 pre) (Nat.le_trans (pick_le ss 0 pre) hp) _ _ c
  · rw [if_neg h, if_neg h, ← hl]
    exact roundX _ _ _ (by omega) (by omega) c
/-- What the k-th part holds. -/
theorem part_ar {σ : Sig} {w : World} {ss : List ByteArray} {B o : Nat} {u : Nat → Value} (hr : σ.ro B) (hm : ∀ j, j < (strs ss).length → w.cell? ⟨B, o + j, none⟩ = some (u j)) (ha : ∀ j, j < (strs ss).length → AR σ w ((strs ss).getD j .any) (u j)) (k : Nat) :
    AR σ w (.vsl (min 2 (ss.length - 2 * k)) (strs ((ss.drop (2 * k)).take 2)) none) (Go.Proofs.YtgmchiadphdlhaaDoor.Chk.part B o ss.length k) := by
  have hl : (strs ((ss.drop (2 * k)).take 2)).length = min 2 (ss.length - 2 * k) := by rw [strs_length, List.length_take, List.length_drop]
  have hs := strs_length ss
  unfold Go.Proofs.YtgmchiadphdlhaaDoor.Chk.part
  refine .vsl B (o + 2 * k) _ (fun j => u (2 * k + j)) hr (fun j hj => ?_) (fun j hj => ?_) (Nat.le_refl _) (fun c h => by cases h)
  · rw [Nat.add_assoc]
    exact hm _ (by omega)
  · have := ha (2 * k + j) (by omega)
    have e : (strs ((ss.drop (2 * k)).take 2)).getD j .any = (strs ss).getD (2 * k + j) .any := by
      have e1 : strs ((ss.drop (2 * k)).take 2) = ((strs ss).drop (2 * k)).take 2 := by simp [strs, List.map_take, List.map_drop]
      rw [e1, List.getD_eq_getElem?_getD, List.getD_eq_getElem?_getD, List.getElem?_take, if_pos (by omega), List.getElem?_drop]
    rw [e]
    exact this
/-- How far a page is. -/
def IOf (ss : List ByteArray) (σ0 : Sig) (w0 : World) (pre : List Nat) (W : World) : Prop := pre.length ≤ 1000 ∧ ∃ σ', Rel glob σ' (HP (pick ss 0 pre) (pick ss 1 pre)) W ∧ Ext σ0 (HP [] []) w0 σ' (HP (pick ss 0 pre) (pick ss 1 pre)) W
theorem of_end (N X : List ByteArray) (hX : X.length = N.length) (t : List AV) (h2 : t.getD 2 .any = .ptr 0 0 0) (h3 : t.getD 3 .any = .ptr 1 0 0) (hl : t.length = 30) :
    lops Tryd.prog glob false (lrg (lq1 (lq2 (lq2 (lq2 lc10))))) t (HP N X) fun t H => aret Tryd.prog t H [.cell 2 26] fun r => Fin 0 H r (pageA N X) [] := by
  match t, hl with
  | [a0, a1, a2, a3, a4, a5, a6, a7, a8, a9, b0, b1, b2, b3, b4, b5, b6, b7, b8, b9, c0, c1, c2, c3, c4, c5, c6, c7, c8, c9], _ =>
    simp only [List.getD_cons_succ, List.getD_cons_zero] at h2 h3
    subst h2 h3
    simp only [lc10, lq1, lq2, lrg]
    unfold HP
    by_cases h0 : N = []
    · subst h0
      obtain rfl : X = [] := List.eq_nil_of_length_eq_zero hX
      rw [if_pos rfl]
      refine gc1 tt tt tt tt ⟨?_⟩
      simp (disch := first | exact dch | fail) only [go_sem, Nat.reduceAdd, Nat.reduceSub, reduceIte, Nat.reduceEqDiff, Int.reduceToNat, Int.reduceBEq, Int.reduceBNe, aenv, aret, aretL, aret1]
      exact ⟨Nat.le_refl _, .agg rfl (fun j hj => (match j, hj with
        | 0, _ => .nr (NR.v _)
        | 1, _ => .nr (NR.v _)
        | 2, _ => .nil
        | 3, _ => .nil)), Nat.zero_le _, fun b k hb => absurd hb (Nat.not_lt_zero _), rfl⟩
    · rw [if_neg h0]
      have ls := strs_length N
      have lv := vals_length X
      refine gc1 tt tt tt tt ⟨?_⟩
      simp (disch := first | exact dch | fail) only [go_sem, Nat.reduceAdd, Nat.reduceSub, reduceIte, Nat.reduceEqDiff, Int.reduceToNat, Int.reduceBEq, Int.reduceBNe, aenv, aret, aretL, aret1]
      refine ⟨Nat.le_refl _, .agg rfl (fun j hj => (match j, hj with
        | 0, _ => .nr (NR.v _)
        | 1, _ => .nr (NR.v _)
        | 2, _ => ?_
        | 3, _ => ?_)), Nat.zero_le _, fun b k hb => absurd hb (Nat.not_lt_zero _), rfl⟩
      · have e : ((strs N).drop 0).take (N.length * 1) = strs N := by rw [List.drop_zero]; exact List.take_of_length_le (by omega)
        show View 0 _ (.sl 2 (N.length - 1) 0 N.length N.length 1 false) (.vsl N.length (strs N) none)
        rw [show AV.vsl N.length (strs N) none = AV.vsl N.length (((strs N).drop 0).take (N.length * 1)) none from by rw [e]]
        exact View.sl (k := ⟨strs N, N.length - 1, true, 9⟩) (Nat.zero_le _) rfl rfl rfl (Nat.le_refl _) (by show 0 + N.length * 1 ≤ (strs N).length; omega) (NR.strs N)
      · have e : ((vals X).drop 0).take (N.length * 4) = vals X := by rw [List.drop_zero]; exact List.take_of_length_le (by omega)
        show View 0 _ (.sl 3 (N.length - 1) 0 N.length N.length 4 false) (.vsl N.length (vals X) none)
        rw [show AV.vsl N.length (vals X) none = AV.vsl N.length (((vals X).drop 0).take (N.length * 4)) none from by rw [e]]
        exact View.sl (k := ⟨vals X, N.length - 1, true, 26⟩) (Nat.zero_le _) rfl rfl rfl (Nat.le_refl _) (by show 0 + N.length * 4 ≤ (vals X).length; omega) (NR.valsX X)
theorem of_begin (ss : List ByteArray) (c : Option Nat) : lavc Tryd.prog glob (lq1 lc10) ([.vsl ss.length (strs ss) c] ++ List.replicate 29 (.v undef)) [] fun e t H => e = .normal ∧ lavc Tryd.prog glob (lq1 (lq2 lc10)) t H fun e t H => e = .normal ∧ lavc Tryd.prog glob (lq1 (lq1 (lq2 (lq2 lc10)))) t H fun e t H =>
    e = .normal ∧ H = HP [] [] ∧ t.getD 2 .any = .ptr 0 0 0 ∧ t.getD 3 .any = .ptr 1 0 0 ∧ t.getD 7 .any = .fn (.func 38) [.vptr [.vsl ss.length (strs ss) c] 0, .vptr [ivC 2] 0] ∧ t.length = 30 := by
  simp only [lc10, lq1, lq2, List.replicate_succ, List.replicate_zero, List.cons_append, List.nil_append]
  have cp := chunk_p ss c
  refine gc1 tt tt tt tt ⟨?_⟩
  refine ⟨trivial, ?_⟩
  refine gc1 tt tt tt tt ⟨?_⟩
  refine ⟨trivial, ?_⟩
  refine gc1 tt (an cp.go tt) tt tt ⟨?_⟩
  exact ⟨trivial, by unfold HP; rw [if_pos rfl], rfl, rfl, rfl, rfl⟩
/-- The rounds' act. -/
def actA (a : Act) (v : Value) : Act := ({ tmps := a.tmps.setIfInBounds 8 v, defers := [] } : Act).put (some 4) (({ tmps := a.tmps.setIfInBounds 8 v, defers := [] } : Act).eval (.tmp 8))
theorem actA_get (a : Act) (v : Value) (h : a.tmps.size = 30) (j : Nat) (hj : j < 30) : (actA a v).tmps.getD j undef = if j = 4 ∨ j = 8 then v else a.tmps.getD j undef := by
  have hs : (a.tmps.setIfInBounds 8 v).size = 30 := by simp [h]
  have e8 : ({ tmps := a.tmps.setIfInBounds 8 v, defers := [] } : Act).eval (.tmp 8) = v := by
    show (a.tmps.setIfInBounds 8 v).getD 8 undef = v
    rw [Array.getD_eq_getD_getElem?, Array.getElem?_setIfInBounds]
    simp [h]
  unfold actA
  rw [e8, put_getD _ _ _ _ (by show j < (a.tmps.setIfInBounds 8 v).size; omega)]
  by_cases h4 : j = 4
  · subst h4
    simp
  · rw [if_neg (by intro e; cases e; exact h4 rfl)]
    show (a.tmps.setIfInBounds 8 v).getD j undef = _
    rw [Array.getD_eq_getD_getElem?, Array.getElem?_setIfInBounds, Array.getD_eq_getD_getElem?]
    by_cases h8 : j = 8
    · subst h8
      simp [h]
    · rw [if_neg (by omega), if_neg (by omega)]
theorem assign_in {l : Nat} {m : Nat} {a : Act} {v : Value} {W : World} {K : Act → World → Prop} (hK : K (actA a v) W) :
    (rfA ofC).wpIn (Fence.wide.inRound l) m Tryd.prog (Exit.then K (fun _ _ _ => False)) { tmps := a.tmps.setIfInBounds 8 v, defers := [] } W := by
  rw [rfA_shape]
  have hd : ∀ c, (opsOf (rfA ofC))[0]!.op ≠ .defer c := fun c => by rw [rfA_op]; simp
  have ho := rfA_op
  have hds := rfA_dst
  have hg := rfA_guard
  generalize (opsOf (rfA ofC))[0]! = o at *
  refine wpIn_region_list ?_
  show wpListIn _ _ _ _ _ [o] _ _
  unfold wpListIn
  have hw : Region.wanted o (yielded #[o] ({ tmps := a.tmps.setIfInBounds 8 v, defers := [] } : Act).tmps) = true := by simp [Region.wanted, hg]
  rw [if_pos hw]
  refine op_in (ro := some l) hd ?_
  unfold Oper.wp
  have hr : (execOp ({ tmps := a.tmps.setIfInBounds 8 v, defers := [] } : Act).eval o).run Tryd.prog W = .ok (.value (({ tmps := a.tmps.setIfInBounds 8 v, defers := [] } : Act).eval (.tmp 8))) W := by
    unfold execOp
    rw [ho]
    rfl
  rw [hr, Oper.upon_value, hds]
  exact hK
/-- page.Of. -/
theorem pageOf_p (ss : List ByteArray) (c : Option Nat) (hs : ss.length ≤ 1000) : PCall Tryd.prog glob 10 [.vsl ss.length (strs ss) c] (pageA (nms ss) (txs ss)) := by
  refine PCall.of ctx.nr (List.forall_mem_cons.2 ⟨NR.vsl (NR.strs _), fun _ h => absurd h List.not_mem_nil⟩) (NR.pageA _ _) ?_
  refine ⟨⟨_, Tryd.func10, by kernel_rfl, by kernel_rfl⟩, fun σ w us hu ha rel => ?_⟩
  refine (callsIn_wide (n := 3)).1 ?_
  refine callsIn_of_wp_marks Tryd.func10 ofC_eq trivial ?_ rfl
  have hnt : Tryd.f10.ntmps = 30 := by kernel_rfl
  have hres : Tryd.f10.results.toList = [.cell 2 26] := by kernel_rfl
  rw [hnt]
  obtain ⟨a0, ha0⟩ : ∃ a0 : Act, a0 = { tmps := us ++ Array.replicate (30 - us.size) undef, defers := [] } := ⟨_, rfl⟩
  have s0 : Sim glob σ ([.vsl ss.length (strs ss) c] ++ List.replicate 29 (.v undef)) [] a0 w := by
    rw [ha0]
    refine ⟨rfl, by simp [hu], fun j hj => ?_, rel⟩
    simp only [List.length_append, List.length_replicate] at hj
    by_cases hja : j < 1
    · obtain rfl : j = 0 := by omega
      have := ha 0 (by simp)
      simpa [List.getD_eq_getElem?_getD, List.getElem?_append, Array.getElem?_append, hu] using this
    · have e1 : ([AV.vsl ss.length (strs ss) c] ++ List.replicate 29 (AV.v undef)).getD j .any = .v undef := by
        rw [List.getD_eq_getElem?_getD, List.getElem?_append_right (by simpa using (by omega : 1 ≤ j)), List.getElem?_replicate, if_pos (by simp at hj ⊢; omega)]
        rfl
      have e2 : (us ++ Array.replicate (30 - us.size) undef).getD j undef = undef := by
        have hus : us.size = 1 := hu
        rw [Array.getD_eq_getD_getElem?, Array.getElem?_append, if_neg (by omega), Array.getElem?_replicate, if_pos (by simp at hj; omega)]
        rfl
      rw [e1]
      show AR σ w (.v undef) ((us ++ Array.replicate (30 - us.size) undef).getD j undef)
      rw [e2]
      exact .v _
  rw [← ha0]
  clear ha0
  rw [ofC_shape]
  refine wpIn_seq (Code.wpIn_mono (fun e a w1 hq => ?_) (of_begin ss c impCodC _ of_s0 ctx.mix none 3 σ [] w σ a0 w s0 (Ext.refl _ _ _)))
  obtain ⟨t1, H1, σ1, ⟨rfl, k1⟩, s1, x1⟩ := hq
  refine wpIn_seq (Code.wpIn_mono (fun e a w2 hq => ?_) (k1 impCodC _ of_s1 ctx.mix none 3 σ [] w σ1 a w1 s1 x1))
  obtain ⟨t2, H2, σ2, ⟨rfl, k2⟩, s2, x2⟩ := hq
  refine wpIn_seq (wpIn_seq (Code.wpIn_mono (fun e a w3 hq => ?_) (k2 impCodC _ of_s2 ctx.mix none 3 σ [] w σ2 a w2 s2 x2)))
  obtain ⟨t3, H3, σ3, ⟨rfl, rfl, q2, q3, q7, ql⟩, s3, x3⟩ := hq
  clear k1 k2 s1 s2 x1 x2
  refine wpIn_block ?_
  have hsz : a.tmps.size = 30 := s3.size.trans ql
  -- the iterator
  have hfv := s3.tmps 7 (by omega)
  rw [q7] at hfv
  have hev : a.eval (.tmp 7) = a.tmps.getD 7 undef := rfl
  generalize a.tmps.getD 7 undef = uf at hfv hev
  cases hfv with
  | fn lb hl ha' =>
  have g0 := ha' 0 (by simp)
  have g1 := ha' 1 (by simp)
  simp only [List.getD_cons_zero, List.getD_cons_succ] at g0 g1
  obtain ⟨p0, p1, rfl⟩ : ∃ u v, lb = #[u, v] := by
    obtain ⟨l⟩ := lb
    match l, hl with
    | [u, v], _ => exact ⟨u, v, rfl⟩
  have e0 : (#[p0, p1] : Array Value).getD 0 undef = p0 := rfl
  have e1 : (#[p0, p1] : Array Value).getD 1 undef = p1 := rfl
  rw [e0] at g0
  rw [e1] at g1
  cases g0 with
  | vptr B0 o0 u0 r0 hm0 har0 =>
  cases g1 with
  | vptr B1 o1 u1 r1 hm1 har1 =>
  have c0 := hm0 0 (by simp)
  have c1 := hm1 0 (by simp)
  have v0 := har0 0 (by simp)
  have v1 := har1 0 (by simp)
  simp only [List.getD_cons_zero, Nat.add_zero] at c0 c1 v0 v1
  have hu1 : u1 0 = .int .i64 2 := by
    generalize u1 0 = y at v1
    cases v1
    rfl
  rw [hu1] at c1
  have rel3 := s3.rel
  have lt0 := rel3.roLt _ r0
  have lt1 := rel3.roLt _ r1
  have key : ∃ pv : Nat → Value, (∀ k, AR σ3 w3 (.vsl (min 2 (ss.length - 2 * k)) (strs ((ss.drop (2 * k)).take 2)) none) (pv k)) ∧
      SeqStopsK Fence.wide 2 Tryd.prog 38 #[.pointer (some ⟨B0, o0, none⟩), .pointer (some ⟨B1, o1, none⟩)] (fun y : Nat => #[pv y]) (Kr σ3.ro) (fun ys => ys = List.range (parts ss.length)) (fun _ => True) (parts ss.length) w3 := by
    generalize u0 0 = y at v0 c0
    have hsl := strs_length ss
    generalize hn : ss.length = n at v0
    generalize hcs : strs ss = cs at v0
    cases v0 with
    | vsl B o cap uu hr hm har hle hx =>
      subst hcs hn
      exact ⟨_, part_ar hr hm har, chunk_stops Fence.wide 2 trivial rfl (by decide) σ3.ro B0 o0 B1 o1 B o ss.length cap (by omega) hle r0 r1 w3 lt0 lt1 c0 c1⟩
    | vsl0 A cap hx =>
      obtain rfl : ss = [] := List.eq_nil_of_length_eq_zero hn
      refine ⟨fun _ => .slice none 0 0, fun k => ?_, ?_⟩
      · have : (strs ((([] : List ByteArray).drop (2 * k)).take 2)) = [] := by simp [strs]
        rw [this]
        show AR σ3 w3 (.vsl (min 2 (0 - 2 * k)) [] none) _
        rw [Nat.zero_sub, Nat.min_zero]
        exact .vsl0 none 0 (fun c h => by cases h)
      · exact chunk_stops0 Fence.wide 2 trivial rfl σ3.ro B0 o0 _ A cap _ w3 lt0 c0
  obtain ⟨pv, hpv, hseq⟩ := key
  refine wpIn_rangeFunc_ownF (F := Fence.wide) rfl (by decide) (gf := 38) hev trivial (enters_of Tryd.func38 (by kernel_rfl) rfl) hseq (fun h k => h.trans k)
    (fun W l o o' hl ho hoc hw => ⟨(Go.grownBy_putObj' W l o').size, fun B hB => (Go.grownBy_putObj' W l o').block B (by have := rel3.roLt B hB; have := (Array.getElem?_eq_some_iff.1 ho).1; omega) (fun e => by have := rel3.roLt B hB; cases e; omega)⟩)
    (RowKit.Below.refl _ _) (fun _ => rfl) (IOf ss σ3 w3) (fun _ _ _ => False)
    (fun s W W' row ⟨hl, σ', r, x⟩ hg hr => ⟨hl, σ', (r.grow hg (fun k e => (hr k e).2)).1, x.grow hg (fun k e => (hr k e).1)⟩)
    (fun _ _ _ _ _ h _ _ => h) ⟨by simp, σ3, rel3, Ext.refl _ _ _⟩ (fun k => actA a (pv k)) ?assign ?body ?done ?stop
  case assign =>
    intro l x W K hK
    have h := assign_in (l := l) (m := 3 - 1 - 1) (v := pv x) hK
    simpa using h
  case body =>
    rintro l pre x W ⟨hpl, σ', r, xt⟩ hlen
    have lv := round_any ss hs pre hpl x none
    have hmv : ∀ y u, AR σ3 w3 y u → AR σ' W y u := fun y u h => h.ext rel3 xt
    have s : Sim glob σ' (tB (.vsl (min 2 (ss.length - 2 * x)) (strs ((ss.drop (2 * x)).take 2)) none)) (HP (pick ss 0 pre) (pick ss 1 pre)) (actA a (pv x)) W := by
      refine ⟨rfl, ?_, fun j hj => ?_, r⟩
      · rw [actA, Act.put_size]
        simp [tB, hsz]
      · have hj : j < 30 := by simpa [tB] using hj
        rw [actA_get a (pv x) hsz j hj]
        by_cases h3 : j = 3
        · subst h3
          have := hmv _ _ (s3.tmps 3 (by omega))
          rw [q3] at this
          exact this
        · by_cases h4 : j = 4
          · subst h4
            exact hmv _ _ (hpv x)
          · have : (tB (.vsl (min 2 (ss.length - 2 * x)) (strs ((ss.drop (2 * x)).take 2)) none)).getD j .any = .any := by
              have : j = 0 ∨ j = 1 ∨ j = 2 ∨ 5 ≤ j := by omega
              rcases this with rfl | rfl | rfl | h5
              · rfl
              · rfl
              · rfl
              · unfold tB
                rw [List.getD_eq_getElem?_getD, List.getElem?_append_right (by simpa using h5), List.getElem?_replicate]
                split <;> rfl
            rw [this]
            exact .any _
    refine Code.wpIn_mono ?_ (lv impCodF _ of_sb ctx.mix (some l) (3 - 1 - 1) σ' _ W σ' _ W s (Ext.refl _ _ _))
    rintro e a' W' ⟨t', H', σ'', ⟨rfl, rfl⟩, s', x'⟩
    refine ⟨x'.keeps r, ⟨x'.size, fun B hB => r.roKept x' B (xt.ro B hB)⟩, ?_, σ'', s'.rel, xt.trans x'⟩
    have : parts ss.length ≤ 501 := by unfold Go.Proofs.YtgmchiadphdlhaaDoor.Chk.parts; omega
    simp only [List.length_append, List.length_singleton]
    omega
  case done =>
    rintro D xs W hD rfl ⟨_, σ', r, xt⟩ hdf
    show (Code.seq (sq1 (sq2 (sq2 (sq2 ofC)))) .ret).wpIn _ _ _ _ _ _
    have s4 : Sim glob σ' t3 (HP (nms ss) (txs ss)) a W := ⟨s3.defers, s3.size, fun j hj => (s3.tmps j hj).ext rel3 xt, r⟩
    have le := of_end (nms ss) (txs ss) (pick_len ss 1 0 _) t3 q2 q3 ql
    obtain ⟨id, ops, draw, hc, hdn, hf, _⟩ := strip_reg (show strip Tryd.prog impCodC (sq1 (sq2 (sq2 (sq2 ofC)))) = .reg [] (lrg (lq1 (lq2 (lq2 (lq2 lc10))))) from of_s6)
    have hdr : draw = false := by
      have := of_d6
      rw [hc] at this
      cases this
      rfl
    subst hdr
    obtain ⟨_, hL⟩ := hf rfl
    rw [hL] at le
    rw [s3.defers]
    refine wpIn_seq ?_
    rw [hc]
    have hwl := lops_list (l := ops.toList) (Q := nrm fun e a' w' => e = .normal ∧ a'.defers = [] ∧ ∃ t' H' σ'', aret Tryd.prog t' H' [.cell 2 26] (fun r => Fin 0 H' r (pageA (nms ss) (txs ss)) []) ∧ Sim glob σ'' t' H' a' w' ∧ Ext σ' (HP (nms ss) (txs ss)) W σ'' H' w') le σ' a W s4 (fun t' H' σ'' a' w' k1 k2 k3 => ⟨rfl, rfl, k2.defers, t', H', σ'', k1, k2, k3⟩)
    have hwd := wpList_def [{ target := .collected D, args := #[] }] (fun a' w' h => h.2.1) hwl
    refine Code.wpIn_mono ?_ (region_list (ro := none) (n := 3) hdn hwd)
    rintro e a' W2 ⟨a1, ⟨rfl, hd1, t', H', σ'', k1, k2, k3⟩, rfl⟩
    refine wpIn_ret ?_
    have hdf2 : W2.heap[D]? = some (.deferred (some [])) := (k3.keeps r).same D _ hdf rfl
    have hgr := Go.grownBy_putObj' W2 D (.deferred none)
    obtain ⟨r2, m2⟩ := k2.rel.grow hgr (fun k e => by cases e; exact ⟨_, hdf2, rfl⟩)
    have x2 : Ext σ [] w σ'' H' (W2.putObj D (.deferred none)) := (x3.trans (xt.trans k3)).grow hgr (fun k e => by cases e; exact Nat.le_trans x3.size hD)
    have s5 : Sim glob σ'' t' H' a1 (W2.putObj D (.deferred none)) := ⟨hd1, k2.size, fun j hj => m2 _ _ (k2.tmps j hj), r2⟩
    rw [← hres] at k1
    obtain ⟨rr, u, ⟨hv, hl2, hn, hh⟩, hrun, hru⟩ := aret_ok s5 k1
    refine ⟨by simp, .inl ⟨D, _, rfl, Go.run_takeDeferred hdf2, ?_⟩⟩
    refine ⟨u, hrun, u, rfl, ?_⟩
    have hcut := Res.cut ctx.nr rel r2 x2 (Nat.le_refl _) hl2 hv hru hn
    exact hcut
  case stop =>
    rintro D c pre W _ _ h _
    exact h.elim
end Go.Abs.S
namespace Go.Abs.S
attribute [local go_sem] lguard aopO aop nxL aenv toAV tput aLoad aStore vcells aBin aNilI aUn aAlloc aBox aBuild aBSlice afill aConv isIntT aappZ aCap aArr aMM aMake aSlice bnd3 bnd aFldAddr aFld aIdxAddr aIdx aExt aLen aCopy aEq0 bAV aUb aapp aappQ agh acont List.getD_cons_zero List.getD_cons_succ List.set_cons_zero List.set_cons_succ List.getElem?_cons_zero List.getElem?_cons_succ List.length_cons List.length_nil List.map_cons List.map_nil ints_length if_true if_false Bool.false_eq_true true_and and_true eq_self ne_eq not_false_eq_true not_true_eq_false beq_self_eq_true Nat.zero_add Nat.add_zero Nat.mul_one Nat.zero_mul Int.toNat_natCast List.toList_toArray List.all_cons List.all_nil AV.one Value.oneCell' Bool.and_true Bool.true_and forall_const true_implies false_implies implies_true Option.map_some Option.map_none Option.isSome_some Option.isSome_none imp_self rdP_flat rdP_row splice_one ints_set ints_get List.append_nil List.cons_append List.nil_append List.getElem?_toArray List.drop_zero ints_drop ints_take List.take_of_length_le splice_all ints_one Option.some.injEq Option.getD_some List.length_replicate zArr List.map_replicate rep_ints splice_intsR List.length_set List.length_append List.flatten_replicate_singleton rep_slice rep_string rep_bool rep_iface List.replicate_zero if_pos if_neg List.mapM_cons List.mapM_nil Option.pure_def Option.bind_eq_bind Option.bind_some Bool.true_eq_false Bool.not_false Bool.not_true get_concat set_concat
open Go.Proofs
set_option linter.unusedVariables false
set_option linter.unusedSimpArgs false
set_option maxRecDepth 100000
set_option maxHeartbeats 4000000
theorem strs_at (l : List ByteArray) (k : Nat) (h : k < l.length) : (strs l).getD k .any = stA (l.getD k ⟨#[]⟩) := by
  simp [strs, List.getD_eq_getElem?_getD, h]
theorem stA_beq (a b : ByteArray) : (a.toList == b.toList) = decide (a = b) := by
  rw [Bool.eq_iff_iff, beq_iff_eq, decide_eq_true_eq]
  refine ⟨fun h => ?_, fun h => by rw [h]⟩
  rw [ByteArray.toList_eq, ByteArray.toList_eq] at h
  cases a; cases b
  congr 1
  exact Array.toList_inj.1 h
/-- The place of a text in a row. -/
def idxK : List ByteArray → ByteArray → Nat → Int
  | [], _, _ => -1
  | a :: l, x, k => if x = a then (k : Int) else idxK l x (k + 1)
theorem idxK_step (l : List ByteArray) (x : ByteArray) (k : Nat) (h : k < l.length) : idxK (l.drop k) x k = if x = l.getD k ⟨#[]⟩ then (k : Int) else idxK (l.drop (k + 1)) x (k + 1) := by
  rw [List.drop_eq_getElem_cons h, idxK, List.getD_eq_getElem?_getD, List.getElem?_eq_getElem h]
  rfl
theorem index_p (l : List ByteArray) (c : Option Nat) (x : ByteArray) (hl : l.length ≤ 1000) : PCall Tryd.prog glob 58 [.vsl l.length (strs l) c, stA x] (ivC (idxK l x 0)) := by
  refine PCall.of ctx.nr (List.forall_mem_cons.2 ⟨NR.vsl (NR.strs _), List.forall_mem_cons.2 ⟨NR.v _, fun _ h => absurd h List.not_mem_nil⟩⟩) (NR.v _) ?_
  refine lcall58 (by simp) 0 (Nat.le_refl _) ?_
  unfold lc58
  simp only [List.length_cons, List.length_nil, Nat.reduceAdd, Nat.reduceSub, List.replicate_succ, List.replicate_zero, List.cons_append, List.nil_append]
  have hs := strs_length l
  obtain ⟨V, hV⟩ : ∃ V, idxK l x 0 = V := ⟨_, rfl⟩
  rw [hV]
  refine gc1 tt tt tt tt ⟨?_⟩
  refine lavc_loopM ms58_0 (fun m (k : Nat) => m + k = l.length ∧ idxK (l.drop k) x k = V) (fun k => [(8, ivC k)]) (fun _ => []) l.length 0 ⟨by omega, by rw [List.drop_zero]; exact hV⟩ ?_ rfl ?_
  · simp only [ms58_0, putAll, blank, List.foldl_cons, List.foldl_nil, List.set_cons_succ, List.set_cons_zero, List.cons_append, List.nil_append, ALe, true_or, or_true, and_true, true_and, eq_self, reduceCtorEq, false_or]
    rfl
  rintro m k ⟨hk, hi⟩
  simp only [ms58_0, putAll, blank, List.foldl_cons, List.foldl_nil, List.set_cons_succ, List.set_cons_zero, List.cons_append, List.nil_append]
  refine go1 tt tt tt tt ⟨?_⟩
  refine lavc_cond rfl (fun hc => ?_) (fun hc => ?_) <;> try simp only [decide_eq_true_eq, decide_eq_false_iff_not, Int.not_lt, Int.not_le, beq_iff_eq, bne_iff_ne, bne_eq_false_iff_eq, beq_eq_false_iff_ne, ne_eq, Bool.not_eq_true', Bool.not_eq_false'] at hc
  · have hkl : k < l.length := by omega
    have hat := strs_at l k hkl
    rw [idxK_step l x k hkl] at hi
    have e3 := i64n ((k : Int) + 1) (k + 1) (by omega) (by omega)
    obtain ⟨y, hy⟩ : ∃ y, l.getD k ⟨#[]⟩ = y := ⟨_, rfl⟩
    rw [hy] at hat hi
    by_cases hx : x = y
    · rw [if_pos hx] at hi
      have q : (x.toList == y.toList) = true := by rw [stA_beq]; exact decide_eq_true hx
      refine gc1 (an hat (an q tt)) tt tt tt ⟨?_⟩
      refine And.intro (by simp) ?_
      simp (disch := first | exact dch | fail) only [go_sem, Nat.reduceAdd, Nat.reduceSub, reduceIte, Nat.reduceEqDiff, Int.reduceToNat, Int.reduceBEq, Int.reduceBNe, aret, aretL, aret1, aenv]
      (repeat (with_reducible refine And.intro acl ?_))
      exact end0 (NR.v _) (by rw [← hi])
    · rw [if_neg hx] at hi
      have q : (x.toList == y.toList) = false := by rw [stA_beq]; exact decide_eq_false hx
      refine gc1 (an hat (an q (an e3 tt))) tt tt tt ⟨?_⟩
      refine ⟨m - 1, k + 1, by omega, ⟨by omega, hi⟩, ?_, (by first | rfl | trivial)⟩
      simp only [ms58_0, putAll, blank, List.foldl_cons, List.foldl_nil, List.set_cons_succ, List.set_cons_zero, List.cons_append, List.nil_append, ALe, true_or, or_true, and_true, true_and, eq_self, reduceCtorEq, false_or]
  · have hk2 : k = l.length := by omega
    rw [hk2, List.drop_length] at hi
    refine gc1 tt tt tt tt ⟨?_⟩
    refine And.intro (by simp) ?_
    simp (disch := first | exact dch | fail) only [go_sem, Nat.reduceAdd, Nat.reduceSub, reduceIte, Nat.reduceEqDiff, Int.reduceToNat, Int.reduceBEq, Int.reduceBNe, aret, aretL, aret1, aenv]
    (repeat (with_reducible refine And.intro acl ?_))
    exact end0 (NR.v _) (by rw [← hi]; rfl)
theorem contains_p (l : List ByteArray) (c : Option Nat) (x : ByteArray) (hl : l.length ≤ 1000) : PCall Tryd.prog glob 57 [.vsl l.length (strs l) c, stA x] (.v (.bool (decide (0 ≤ idxK l x 0)))) := by
  refine PCall.of ctx.nr (List.forall_mem_cons.2 ⟨NR.vsl (NR.strs _), List.forall_mem_cons.2 ⟨NR.v _, fun _ h => absurd h List.not_mem_nil⟩⟩) (NR.v _) ?_
  refine lcall57 (by simp) 0 (Nat.le_refl _) ?_
  unfold lc57
  simp only [List.length_cons, List.length_nil, Nat.reduceAdd, Nat.reduceSub, List.replicate_succ, List.replicate_zero, List.cons_append, List.nil_append]
  have ip := index_p l c x hl
  refine gc1 tt (an ip.go tt) tt tt ⟨?_⟩
  refine And.intro (by simp) ?_
  simp (disch := first | exact dch | fail) only [go_sem, Nat.reduceAdd, Nat.reduceSub, reduceIte, Nat.reduceEqDiff, Int.reduceToNat, Int.reduceBEq, Int.reduceBNe, aret, aretL, aret1, aenv]
  (repeat (with_reducible refine And.intro acl ?_))
  exact end0 (NR.v _) rfl
/-- Does a text stand twice? -/
def twiceK (l : List ByteArray) (k : Nat) : Bool := (List.range l.length).any fun i => decide (k ≤ i) && decide (0 ≤ idxK (l.take i) (l.getD i ⟨#[]⟩) 0)
def twiceP (l : List ByteArray) : Bool := twiceK l 0
theorem twiceK_step (l : List ByteArray) (k : Nat) (h : k < l.length) : twiceK l k = (decide (0 ≤ idxK (l.take k) (l.getD k ⟨#[]⟩) 0) || twiceK l (k + 1)) := by
  unfold twiceK
  rw [Bool.eq_iff_iff]
  simp only [List.any_eq_true, List.mem_range, Bool.and_eq_true, decide_eq_true_eq, Bool.or_eq_true]
  constructor
  · rintro ⟨i, h1, h2, h3⟩
    by_cases e : i = k
    · subst e
      exact .inl h3
    · exact .inr ⟨i, h1, by omega, h3⟩
  · rintro (h1 | ⟨i, h1, h2, h3⟩)
    · exact ⟨k, h, Nat.le_refl _, h1⟩
    · exact ⟨i, h1, by omega, h3⟩
theorem twiceK_end (l : List ByteArray) : twiceK l l.length = false := by
  unfold twiceK
  rw [List.any_eq_false]
  intro i hi
  rw [List.mem_range] at hi
  simp
  omega
theorem twice_p (l : List ByteArray) (c : Option Nat) (hl : l.length ≤ 1000) : PCall Tryd.prog glob 40 [.vsl l.length (strs l) c] (.v (.bool (twiceP l))) := by
  refine PCall.of ctx.nr (List.forall_mem_cons.2 ⟨NR.vsl (NR.strs _), fun _ h => absurd h List.not_mem_nil⟩) (NR.v _) ?_
  refine lcall40 (by simp) 0 (Nat.le_refl _) ?_
  unfold lc40
  simp only [List.length_cons, List.length_nil, Nat.reduceAdd, Nat.reduceSub, List.replicate_succ, List.replicate_zero, List.cons_append, List.nil_append]
  have hs := strs_length l
  obtain ⟨V, hV⟩ : ∃ V, twiceP l = V := ⟨_, rfl⟩
  rw [hV]
  refine gc1 tt tt tt tt ⟨?_⟩
  refine lavc_loopM ms40_0 (fun m (k : Nat) => m + k = l.length ∧ twiceK l k = V) (fun k => [(7, ivC k)]) (fun _ => []) l.length 0 ⟨by omega, hV⟩ ?_ rfl ?_
  · simp only [ms40_0, putAll, blank, List.foldl_cons, List.foldl_nil, List.set_cons_succ, List.set_cons_zero, List.cons_append, List.nil_append, ALe, true_or, or_true, and_true, true_and, eq_self, reduceCtorEq, false_or]
    rfl
  rintro m k ⟨hk, hi⟩
  simp only [ms40_0, putAll, blank, List.foldl_cons, List.foldl_nil, List.set_cons_succ, List.set_cons_zero, List.cons_append, List.nil_append]
  refine go1 tt tt tt tt ⟨?_⟩
  refine lavc_cond rfl (fun hc => ?_) (fun hc => ?_) <;> try simp only [decide_eq_true_eq, decide_eq_false_iff_not, Int.not_lt, Int.not_le, beq_iff_eq, bne_iff_ne, bne_eq_false_iff_eq, beq_eq_false_iff_ne, ne_eq, Bool.not_eq_true', Bool.not_eq_false'] at hc
  · have hkl : k < l.length := by omega
    have hat := strs_at l k hkl
    rw [twiceK_step l k hkl] at hi
    have e3 := i64n ((k : Int) + 1) (k + 1) (by omega) (by omega)
    obtain ⟨y, hy⟩ : ∃ y, l.getD k ⟨#[]⟩ = y := ⟨_, rfl⟩
    rw [hy] at hat hi
    have htk : List.take k (strs l) = strs (l.take k) := by simp [strs, List.map_take]
    have hln : (l.take k).length = k := by rw [List.length_take]; omega
    have cp := fun c => contains_p (l.take k) c y (by omega)
    rw [hln] at cp
    obtain ⟨w, hw⟩ : ∃ w, decide (0 ≤ idxK (l.take k) y 0) = w := ⟨_, rfl⟩
    rw [hw] at cp hi
    cases w with
    | true =>
      repeat (first
        | (with_reducible refine lops_step fun K hK => ?_; simp (disch := first | exact dch | fail) only [go_sem, Nat.reduceAdd, Nat.reduceSub, reduceIte, Nat.reduceEqDiff, Int.reduceToNat, Int.reduceBEq, Int.reduceBNe, hat, htk, Nat.mul_one, Nat.sub_zero]; (try (first | (refine And.intro (fun _ => ?_) (fun h => absurd h (by decide))) | (refine And.intro (fun h => absurd h (by decide)) (fun _ => ?_)))); (repeat (with_reducible refine And.intro acl ?_)); (first | (refine hK _ _ ?_) | (refine ⟨_, rfl, hK _ _ ?_⟩) | (refine Or.inl (hK _ _ ?_)) | (refine ⟨_, _, Or.inl ((cp _).go _), (by first | exact ⟨[], (List.append_nil _).symm⟩ | exact ⟨_, rfl⟩), hK _ _ ?_⟩) | (refine ⟨_, _, Or.inl ((cp _).go _), hK _ _ ?_⟩) | (refine ⟨_, _, Or.inl ((cp _).go _).weakQ, hK _ _ ?_⟩)); clear hK K)
        | (with_reducible refine lops_nil ?_)
        | (with_reducible first | refine lavc_reg ?_ | refine lavc_seq ?_ | refine lavc_block ?_ | refine lavc_skip ?_ | refine lavc_exit ?_ | refine lavc_ret ?_ | refine lavcR_round ?_)
        | (refine lavc_cond rfl (fun _ => ?_) (fun hc => absurd hc (by decide)))
        | (refine lavc_cond rfl (fun hc => absurd hc (by decide)) (fun _ => ?_))
        | (simp only [↓reduceIte, Nat.reduceEqDiff, reduceCtorEq]))
      refine And.intro (by simp) ?_
      simp (disch := first | exact dch | fail) only [go_sem, Nat.reduceAdd, Nat.reduceSub, reduceIte, Nat.reduceEqDiff, Int.reduceToNat, Int.reduceBEq, Int.reduceBNe, aret, aretL, aret1, aenv]
      (repeat (with_reducible refine And.intro acl ?_))
      exact end0 (NR.v _) (by rw [← hi]; rfl)
    | false =>
      rw [Bool.false_or] at hi
      repeat (first
        | (with_reducible refine lops_step fun K hK => ?_; simp (disch := first | exact dch | fail) only [go_sem, Nat.reduceAdd, Nat.reduceSub, reduceIte, Nat.reduceEqDiff, Int.reduceToNat, Int.reduceBEq, Int.reduceBNe, hat, htk, Nat.mul_one, Nat.sub_zero, e3]; (try (first | (refine And.intro (fun _ => ?_) (fun h => absurd h (by decide))) | (refine And.intro (fun h => absurd h (by decide)) (fun _ => ?_)))); (repeat (with_reducible refine And.intro acl ?_)); (first | (refine hK _ _ ?_) | (refine ⟨_, rfl, hK _ _ ?_⟩) | (refine Or.inl (hK _ _ ?_)) | (refine ⟨_, _, Or.inl ((cp _).go _), (by first | exact ⟨[], (List.append_nil _).symm⟩ | exact ⟨_, rfl⟩), hK _ _ ?_⟩) | (refine ⟨_, _, Or.inl ((cp _).go _), hK _ _ ?_⟩) | (refine ⟨_, _, Or.inl ((cp _).go _).weakQ, hK _ _ ?_⟩)); clear hK K)
        | (with_reducible refine lops_nil ?_)
        | (with_reducible first | refine lavc_reg ?_ | refine lavc_seq ?_ | refine lavc_block ?_ | refine lavc_skip ?_ | refine lavc_exit ?_ | refine lavc_ret ?_ | refine lavcR_round ?_)
        | (refine lavc_cond rfl (fun _ => ?_) (fun hc => absurd hc (by decide)))
        | (refine lavc_cond rfl (fun hc => absurd hc (by decide)) (fun _ => ?_))
        | (simp only [↓reduceIte, Nat.reduceEqDiff, reduceCtorEq]))
      refine ⟨m - 1, k + 1, by omega, ⟨by omega, hi⟩, ?_, (by first | rfl | trivial)⟩
      simp only [ms40_0, putAll, blank, List.foldl_cons, List.foldl_nil, List.set_cons_succ, List.set_cons_zero, List.cons_append, List.nil_append, ALe, true_or, or_true, and_true, true_and, eq_self, reduceCtorEq, false_or]
  · have hk2 : k = l.length := by omega
    rw [hk2, twiceK_end] at hi
    refine gc1 tt tt tt tt ⟨?_⟩
    refine And.intro (by simp) ?_
    simp (disch := first | exact dch | fail) only [go_sem, Nat.reduceAdd, Nat.reduceSub, reduceIte, Nat.reduceEqDiff, Int.reduceToNat, Int.reduceBEq, Int.reduceBNe, aret, aretL, aret1, aenv]
    (repeat (with_reducible refine And.intro acl ?_))
    exact end0 (NR.v _) (by rw [← hi])
theorem notv_p (s : ByteArray) (h : s.size ≤ 9223372036854775807) : PCall Tryd.prog glob 56 [stA s] (.v (.bool (!validP s))) := by
  refine PCall.of ctx.nr nrs (NR.v _) ?_
  refine lcall56 (by simp) 0 (Nat.le_refl _) ?_
  unfold lc56
  simp only [List.length_cons, List.length_nil, Nat.reduceAdd, Nat.reduceSub, List.replicate_succ, List.replicate_zero, List.cons_append, List.nil_append]
  have vp := valid_p s h
  refine gc1 tt (an vp.go tt) tt tt ⟨?_⟩
  refine And.intro (by simp) ?_
  simp (disch := first | exact dch | fail) only [go_sem, Nat.reduceAdd, Nat.reduceSub, reduceIte, Nat.reduceEqDiff, Int.reduceToNat, Int.reduceBEq, Int.reduceBNe, aret, aretL, aret1, aenv]
  (repeat (with_reducible refine And.intro acl ?_))
  exact end0 (NR.v _) rfl
/-- The place of the first text that is not UTF-8. -/
def ifK : List ByteArray → Nat → Int
  | [], _ => -1
  | a :: l, k => if validP a then ifK l (k + 1) else (k : Int)
theorem ifK_step (l : List ByteArray) (k : Nat) (h : k < l.length) : ifK (l.drop k) k = if validP (l.getD k ⟨#[]⟩) then ifK (l.drop (k + 1)) (k + 1) else (k : Int) := by
  rw [List.drop_eq_getElem_cons h, ifK, List.getD_eq_getElem?_getD, List.getElem?_eq_getElem h]
  rfl
theorem ifK_all : ∀ (l : List ByteArray) (k : Nat), decide (0 ≤ ifK l k) = !(l.all validP)
  | [], k => rfl
  | a :: l, k => by
    rw [ifK, List.all_cons]
    cases hv : validP a with
    | true =>
      rw [if_pos rfl, ifK_all l (k + 1), Bool.true_and]
    | false =>
      rw [if_neg (by decide), Bool.false_and]
      simp
theorem fnA_nr : NR (.fn (.func 56) []) := fun σ w u h => by
  cases h with
  | fn us hl ha => exact .fn us hl (fun j hj => absurd hj (Nat.not_lt_zero _))
theorem ixf_p (l : List ByteArray) (c : Option Nat) (hl : l.length ≤ 1000) (hz : ∀ s ∈ l, s.size ≤ 9223372036854775807) : PCall Tryd.prog glob 70 [.vsl l.length (strs l) c, .fn (.func 56) []] (ivC (ifK l 0)) := by
  refine PCall.of ctx.nr (List.forall_mem_cons.2 ⟨NR.vsl (NR.strs _), List.forall_mem_cons.2 ⟨fnA_nr, fun _ h => absurd h List.not_mem_nil⟩⟩) (NR.v _) ?_
  refine lcall70 (by simp) 0 (Nat.le_refl _) ?_
  unfold lc70
  simp only [List.length_cons, List.length_nil, Nat.reduceAdd, Nat.reduceSub, List.replicate_succ, List.replicate_zero, List.cons_append, List.nil_append]
  have hs := strs_length l
  obtain ⟨V, hV⟩ : ∃ V, ifK l 0 = V := ⟨_, rfl⟩
  rw [hV]
  refine gc1 tt tt tt tt ⟨?_⟩
  refine lavc_loopM ms70_0 (fun m (k : Nat) => m + k = l.length ∧ ifK (l.drop k) k = V) (fun k => [(8, ivC k)]) (fun _ => []) l.length 0 ⟨by omega, by rw [List.drop_zero]; exact hV⟩ ?_ rfl ?_
  · simp only [ms70_0, putAll, blank, List.foldl_cons, List.foldl_nil, List.set_cons_succ, List.set_cons_zero, List.cons_append, List.nil_append, ALe, true_or, or_true, and_true, true_and, eq_self, reduceCtorEq, false_or]
    rfl
  rintro m k ⟨hk, hi⟩
  simp only [ms70_0, putAll, blank, List.foldl_cons, List.foldl_nil, List.set_cons_succ, List.set_cons_zero, List.cons_append, List.nil_append]
  refine go1 tt tt tt tt ⟨?_⟩
  refine lavc_cond rfl (fun hc => ?_) (fun hc => ?_) <;> try simp only [decide_eq_true_eq, decide_eq_false_iff_not, Int.not_lt, Int.not_le, beq_iff_eq, bne_iff_ne, bne_eq_false_iff_eq, beq_eq_false_iff_ne, ne_eq, Bool.not_eq_true', Bool.not_eq_false'] at hc
  · have hkl : k < l.length := by omega
    have hat := strs_at l k hkl
    rw [ifK_step l k hkl] at hi
    have e3 := i64n ((k : Int) + 1) (k + 1) (by omega) (by omega)
    have hys : (l.getD k ⟨#[]⟩).size ≤ 9223372036854775807 := by
      rw [List.getD_eq_getElem?_getD, List.getElem?_eq_getElem hkl]
      exact hz _ (List.getElem_mem hkl)
    obtain ⟨y, hy⟩ : ∃ y, l.getD k ⟨#[]⟩ = y := ⟨_, rfl⟩
    rw [hy] at hat hi hys
    have np := notv_p y hys
    cases hv : validP y with
    | true =>
      rw [hv] at hi np
      rw [if_pos rfl] at hi
      have np : PCall Tryd.prog glob 56 [stA y] (.v (.bool false)) := np
      refine gc1 (an hat (an e3 tt)) (an np.go tt) tt tt ⟨?_⟩
      refine ⟨m - 1, k + 1, by omega, ⟨by omega, hi⟩, ?_, (by first | rfl | trivial)⟩
      simp only [ms70_0, putAll, blank, List.foldl_cons, List.foldl_nil, List.set_cons_succ, List.set_cons_zero, List.cons_append, List.nil_append, ALe, true_or, or_true, and_true, true_and, eq_self, reduceCtorEq, false_or]
    | false =>
      rw [hv] at hi np
      rw [if_neg (by decide)] at hi
      have np : PCall Tryd.prog glob 56 [stA y] (.v (.bool true)) := np
      refine gc1 (an hat (an e3 tt)) (an np.go tt) tt tt ⟨?_⟩
      refine And.intro (by simp) ?_
      simp (disch := first | exact dch | fail) only [go_sem, Nat.reduceAdd, Nat.reduceSub, reduceIte, Nat.reduceEqDiff, Int.reduceToNat, Int.reduceBEq, Int.reduceBNe, aret, aretL, aret1, aenv]
      (repeat (with_reducible refine And.intro acl ?_))
      exact end0 (NR.v _) (by rw [← hi])
  · have hk2 : k = l.length := by omega
    rw [hk2, List.drop_length] at hi
    refine gc1 tt tt tt tt ⟨?_⟩
    refine And.intro (by simp) ?_
    simp (disch := first | exact dch | fail) only [go_sem, Nat.reduceAdd, Nat.reduceSub, reduceIte, Nat.reduceEqDiff, Int.reduceToNat, Int.reduceBEq, Int.reduceBNe, aret, aretL, aret1, aenv]
    (repeat (with_reducible refine And.intro acl ?_))
    exact end0 (NR.v _) (by rw [← hi]; rfl)
theorem ctf_p (l : List ByteArray) (c : Option Nat) (hl : l.length ≤ 1000) (hz : ∀ s ∈ l, s.size ≤ 9223372036854775807) : PCall Tryd.prog glob 55 [.vsl l.length (strs l) c, .fn (.func 56) []] (.v (.bool (!(l.all validP)))) := by
  refine PCall.of ctx.nr (List.forall_mem_cons.2 ⟨NR.vsl (NR.strs _), List.forall_mem_cons.2 ⟨fnA_nr, fun _ h => absurd h List.not_mem_nil⟩⟩) (NR.v _) ?_
  refine lcall55 (by simp) 0 (Nat.le_refl _) ?_
  unfold lc55
  simp only [List.length_cons, List.length_nil, Nat.reduceAdd, Nat.reduceSub, List.replicate_succ, List.replicate_zero, List.cons_append, List.nil_append]
  have ip := ixf_p l c hl hz
  rw [← ifK_all l 0]
  refine gc1 tt (an ip.go tt) tt tt ⟨?_⟩
  refine And.intro (by simp) ?_
  simp (disch := first | exact dch | fail) only [go_sem, Nat.reduceAdd, Nat.reduceSub, reduceIte, Nat.reduceEqDiff, Int.reduceToNat, Int.reduceBEq, Int.reduceBNe, aret, aretL, aret1, aenv]
  (repeat (with_reducible refine And.intro acl ?_))
  exact end0 (NR.v _) rfl
end Go.Abs.S
namespace Go.Abs.S
attribute [local go_sem] lguard aopO aop nxL aenv toAV tput aLoad aStore vcells aBin aNilI aUn aAlloc aBox aBuild aBSlice afill aConv isIntT aappZ aCap aArr aMM aMake aSlice bnd3 bnd aFldAddr aFld aIdxAddr aIdx aExt aLen aCopy aEq0 bAV aUb aapp aappQ agh acont List.getD_cons_zero List.getD_cons_succ List.set_cons_zero List.set_cons_succ List.getElem?_cons_zero List.getElem?_cons_succ List.length_cons List.length_nil List.map_cons List.map_nil ints_length if_true if_false Bool.false_eq_true true_and and_true eq_self ne_eq not_false_eq_true not_true_eq_false beq_self_eq_true Nat.zero_add Nat.add_zero Nat.mul_one Nat.zero_mul Int.toNat_natCast List.toList_toArray List.all_cons List.all_nil AV.one Value.oneCell' Bool.and_true Bool.true_and forall_const true_implies false_implies implies_true Option.map_some Option.map_none Option.isSome_some Option.isSome_none imp_self rdP_flat rdP_row splice_one ints_set ints_get List.append_nil List.cons_append List.nil_append List.getElem?_toArray List.drop_zero ints_drop ints_take List.take_of_length_le splice_all ints_one Option.some.injEq Option.getD_some List.length_replicate zArr List.map_replicate rep_ints splice_intsR List.length_set List.length_append List.flatten_replicate_singleton rep_slice rep_string rep_bool rep_iface List.replicate_zero if_pos if_neg List.mapM_cons List.mapM_nil Option.pure_def Option.bind_eq_bind Option.bind_some Bool.true_eq_false Bool.not_false Bool.not_true get_concat set_concat
open Go.Proofs
set_option linter.unusedVariables false
set_option linter.unusedSimpArgs false
set_option maxRecDepth 100000
set_option maxHeartbeats 4000000
abbrev textA (s : ByteArray) : AV := .agg (valT s)
theorem NR.textA (s : ByteArray) : NR (textA s) := NR.agg (by
  intro x hx
  simp only [valT, List.mem_cons, List.not_mem_nil, or_false] at hx
  rcases hx with rfl | rfl | rfl | rfl <;> exact NR.v _)
theorem formT_p (s : ByteArray) (h : s.size ≤ 9223372036854775807) : PCall Tryd.prog glob 39 [textA s] (.v (.bool (validP s))) := by
  refine PCall.of ctx.nr (List.forall_mem_cons.2 ⟨NR.textA s, fun _ h => absurd h List.not_mem_nil⟩) (NR.v _) ?_
  refine lcall39 (by simp) 0 (Nat.le_refl _) ?_
  unfold textA valT
  unfold lc39
  simp only [List.length_cons, List.length_nil, Nat.reduceAdd, Nat.reduceSub, List.replicate_succ, List.replicate_zero, List.cons_append, List.nil_append]
  have vp := valid_p s h
  refine gc1 tt (an vp.go tt) tt tt ⟨?_⟩
  refine And.intro (by simp) ?_
  simp (disch := first | exact dch | fail) only [go_sem, Nat.reduceAdd, Nat.reduceSub, reduceIte, Nat.reduceEqDiff, Int.reduceToNat, Int.reduceBEq, Int.reduceBNe, aret, aretL, aret1, aenv]
  (repeat (with_reducible refine And.intro acl ?_))
  exact end0 (NR.v _) rfl
theorem goodT_p (s : ByteArray) (h : s.size ≤ 9223372036854775807) : PCall Tryd.prog glob 24 [textA s, ivC 2] (ivC (if validP s then 0 else 2)) := by
  refine PCall.of ctx.nr (List.forall_mem_cons.2 ⟨NR.textA s, List.forall_mem_cons.2 ⟨NR.v _, fun _ h => absurd h List.not_mem_nil⟩⟩) (NR.v _) ?_
  refine lcall24 (by simp) 0 (Nat.le_refl _) ?_
  unfold textA valT
  unfold lc24
  simp only [List.length_cons, List.length_nil, Nat.reduceAdd, Nat.reduceSub, List.replicate_succ, List.replicate_zero, List.cons_append, List.nil_append]
  have fp : PCall Tryd.prog glob 39 [.agg [ivC 4, stA s, nlA, nlA]] (.v (.bool (validP s))) := formT_p s h
  have tp : PCall Tryd.prog glob 40 [.v (.slice none 0 0)] (.v (.bool false)) := (twice_p [] none (by decide)).les (args := [.v (.slice none 0 0)]) ⟨AvLe.nil, trivial⟩
  cases hv : validP s with
  | false =>
    rw [hv] at fp
    refine gc1 tt (an fp.go tt) tt tt ⟨?_⟩
    refine And.intro (by simp) ?_
    simp (disch := first | exact dch | fail) only [go_sem, Nat.reduceAdd, Nat.reduceSub, reduceIte, Nat.reduceEqDiff, Int.reduceToNat, Int.reduceBEq, Int.reduceBNe, aret, aretL, aret1, aenv]
    (repeat (with_reducible refine And.intro acl ?_))
    exact end0 (NR.v _) rfl
  | true =>
    rw [hv] at fp
    refine gc1 tt (an fp.go (an tp.go tt)) tt tt ⟨?_⟩
    refine lavc_rounds 1 ?_
    refine gc1 tt tt tt tt ⟨?_⟩
    refine And.intro (by simp) ?_
    simp (disch := first | exact dch | fail) only [go_sem, Nat.reduceAdd, Nat.reduceSub, reduceIte, Nat.reduceEqDiff, Int.reduceToNat, Int.reduceBEq, Int.reduceBNe, aret, aretL, aret1, aenv]
    (repeat (with_reducible refine And.intro acl ?_))
    exact end0 (NR.v _) rfl
theorem vals_at (X : List ByteArray) (k : Nat) (h : k < X.length) : ((vals X).drop (k * 4)).take 4 = valT (X.getD k ⟨#[]⟩) := by
  induction X generalizing k with
  | nil => exact absurd h (Nat.not_lt_zero _)
  | cons a X ih =>
    have e : vals (a :: X) = valT a ++ vals X := rfl
    have hl : (valT a).length = 4 := rfl
    rw [e]
    cases k with
    | zero => simp [valT]
    | succ k =>
      rw [show (k + 1) * 4 = k * 4 + 1 + 1 + 1 + 1 from by omega]
      have := ih k (by simpa using h)
      simp only [valT, List.cons_append, List.nil_append, List.drop_succ_cons] at this ⊢
      simpa using this
theorem formP_p (N X : List ByteArray) (hX : X.length = N.length) (hl : N.length ≤ 1000) (hz : ∀ s ∈ N, s.size ≤ 9223372036854775807) : PCall Tryd.prog glob 39 [pageA N X] (.v (.bool (N.all validP))) := by
  refine PCall.of ctx.nr (List.forall_mem_cons.2 ⟨NR.pageA N X, fun _ h => absurd h List.not_mem_nil⟩) (NR.v _) ?_
  refine lcall39 (by simp) 0 (Nat.le_refl _) ?_
  unfold pageA
  unfold lc39
  simp only [List.length_cons, List.length_nil, Nat.reduceAdd, Nat.reduceSub, List.replicate_succ, List.replicate_zero, List.cons_append, List.nil_append]
  have cf := fun c => ctf_p N c hl hz
  obtain ⟨w, hw⟩ : ∃ w, N.all validP = w := ⟨_, rfl⟩
  rw [hw] at cf ⊢
  have q1 : (((N.length : Nat) : Int) == ((N.length : Nat) : Int)) = true := by simp
  repeat (first
    | (with_reducible refine lops_step fun K hK => ?_; simp (disch := first | exact dch | fail) only [go_sem, Nat.reduceAdd, Nat.reduceSub, reduceIte, Nat.reduceEqDiff, Int.reduceToNat, Int.reduceBEq, Int.reduceBNe, q1, Bool.not_not]; (try (first | (refine And.intro (fun _ => ?_) (fun h => absurd h (by decide))) | (refine And.intro (fun h => absurd h (by decide)) (fun _ => ?_)))); (repeat (with_reducible refine And.intro acl ?_)); (first | (refine hK _ _ ?_) | (refine ⟨_, rfl, hK _ _ ?_⟩) | (refine Or.inl (hK _ _ ?_)) | (refine ⟨_, _, Or.inl ((cf _).go _), (by first | exact ⟨[], (List.append_nil _).symm⟩ | exact ⟨_, rfl⟩), hK _ _ ?_⟩) | (refine ⟨_, _, Or.inl ((cf _).go _), hK _ _ ?_⟩) | (refine ⟨_, _, Or.inl ((cf _).go _).weakQ, hK _ _ ?_⟩)); clear hK K)
    | (with_reducible refine lops_nil ?_)
    | (with_reducible first | refine lavc_reg ?_ | refine lavc_seq ?_ | refine lavc_block ?_ | refine lavc_skip ?_ | refine lavc_exit ?_ | refine lavc_ret ?_ | refine lavcR_round ?_)
    | (refine lavc_cond rfl (fun _ => ?_) (fun hc => absurd hc (by decide)))
    | (refine lavc_cond rfl (fun hc => absurd hc (by decide)) (fun _ => ?_))
    | (simp only [↓reduceIte, Nat.reduceEqDiff, reduceCtorEq]))
  refine And.intro (by simp) ?_
  simp (disch := first | exact dch | fail) only [go_sem, Nat.reduceAdd, Nat.reduceSub, reduceIte, Nat.reduceEqDiff, Int.reduceToNat, Int.reduceBEq, Int.reduceBNe, aret, aretL, aret1, aenv]
  (repeat (with_reducible refine And.intro acl ?_))
  exact end0 (NR.v _) (by simp)
/-- What is wrong with a page of texts. -/
def goodPg (N X : List ByteArray) : Int := if N.all validP = false then 2 else if 64 < N.length then 11 else if twiceP N = true then 10 else if X.all validP = true then 0 else 2
theorem goodP_p (N X : List ByteArray) (hX : X.length = N.length) (hl : N.length ≤ 1000) (hz : ∀ s ∈ N, s.size ≤ 9223372036854775807) (hx : ∀ s ∈ X, s.size ≤ 9223372036854775807) : PCall Tryd.prog glob 24 [pageA N X, ivC 1] (ivC (goodPg N X)) := by
  refine PCall.of ctx.nr (List.forall_mem_cons.2 ⟨NR.pageA N X, List.forall_mem_cons.2 ⟨NR.v _, fun _ h => absurd h List.not_mem_nil⟩⟩) (NR.v _) ?_
  refine lcall24 (by simp) 0 (Nat.le_refl _) ?_
  have fp := formP_p N X hX hl hz
  have tp := fun c => twice_p N c hl
  have hlx := vals_length X
  rw [hX] at hlx
  unfold pageA at fp ⊢
  unfold lc24
  simp only [List.length_cons, List.length_nil, Nat.reduceAdd, Nat.reduceSub, List.replicate_succ, List.replicate_zero, List.cons_append, List.nil_append]
  unfold goodPg
  cases hv : N.all validP with
  | false =>
    rw [hv] at fp
    rw [if_pos rfl]
    refine gc1 tt (an fp.go tt) tt tt ⟨?_⟩
    refine And.intro (by simp) ?_
    simp (disch := first | exact dch | fail) only [go_sem, Nat.reduceAdd, Nat.reduceSub, reduceIte, Nat.reduceEqDiff, Int.reduceToNat, Int.reduceBEq, Int.reduceBNe, aret, aretL, aret1, aenv]
    (repeat (with_reducible refine And.intro acl ?_))
    exact end0 (NR.v _) rfl
  | true =>
    rw [hv] at fp
    rw [if_neg (by decide)]
    by_cases h64 : 64 < N.length
    · rw [if_pos h64]
      have d1 : decide ((N.length : Int) > 64) = true := by rw [decide_eq_true_eq]; omega
      refine gc1 (an d1 tt) (an fp.go tt) tt tt ⟨?_⟩
      refine And.intro (by simp) ?_
      simp (disch := first | exact dch | fail) only [go_sem, Nat.reduceAdd, Nat.reduceSub, reduceIte, Nat.reduceEqDiff, Int.reduceToNat, Int.reduceBEq, Int.reduceBNe, aret, aretL, aret1, aenv]
      (repeat (with_reducible refine And.intro acl ?_))
      exact end0 (NR.v _) rfl
    rw [if_neg h64]
    have d1 : decide ((N.length : Int) > 64) = false := by rw [decide_eq_false_iff_not]; omega
    cases ht : twiceP N with
    | true =>
      rw [ht] at tp
      rw [if_pos rfl]
      refine gc1 (an d1 tt) (an fp.go tt) (an (fun u => (tp u).go) tt) tt ⟨?_⟩
      refine And.intro (by simp) ?_
      simp (disch := first | exact dch | fail) only [go_sem, Nat.reduceAdd, Nat.reduceSub, reduceIte, Nat.reduceEqDiff, Int.reduceToNat, Int.reduceBEq, Int.reduceBNe, aret, aretL, aret1, aenv]
      (repeat (with_reducible refine And.intro acl ?_))
      exact end0 (NR.v _) rfl
    | false =>
      rw [ht] at tp
      rw [if_neg (by decide)]
      obtain ⟨V, hV⟩ : ∃ V : Int, (if X.all validP = true then (0 : Int) else 2) = V := ⟨_, rfl⟩
      rw [hV]
      refine gc1 (an d1 tt) (an fp.go tt) (an (fun u => (tp u).go) tt) tt ⟨?_⟩
      refine lavc_loopM ms24_0 (fun m (x : Nat × AHeap) => m + x.1 = N.length ∧ (if (X.drop x.1).all validP = true then (0 : Int) else 2) = V) (fun x => [(27, ivC x.1)]) (fun x => [Blk.mk [ivC 6, stA ⟨#[]⟩, .vsl N.length (strs N) none, .vsl N.length (vals X) none] 0 true 26] ++ x.2) N.length (0, []) ⟨by omega, by rw [List.drop_zero]; exact hV⟩ ?_ ?_ ?_
      · simp only [ms24_0, putAll, blank, List.foldl_cons, List.foldl_nil, List.set_cons_succ, List.set_cons_zero, List.cons_append, List.nil_append, ALe, true_or, or_true, and_true, true_and, eq_self, reduceCtorEq, false_or]
        rfl
      · rfl
      rintro m ⟨k, gg⟩ ⟨hk, hi⟩
      simp only at hk hi ⊢
      simp only [ms24_0, putAll, blank, List.foldl_cons, List.foldl_nil, List.set_cons_succ, List.set_cons_zero, List.cons_append, List.nil_append]
      refine go1 tt tt tt tt ⟨?_⟩
      refine lavc_cond rfl (fun hc => ?_) (fun hc => ?_) <;> try simp only [decide_eq_true_eq, decide_eq_false_iff_not, Int.not_lt, Int.not_le, beq_iff_eq, bne_iff_ne, bne_eq_false_iff_eq, beq_eq_false_iff_ne, ne_eq, Bool.not_eq_true', Bool.not_eq_false'] at hc
      · have hkl : k < X.length := by omega
        have hat := vals_at X k hkl
        have hys : (X.getD k ⟨#[]⟩).size ≤ 9223372036854775807 := by
          rw [List.getD_eq_getElem?_getD, List.getElem?_eq_getElem hkl]
          exact hx _ (List.getElem_mem hkl)
        have hdr : (X.drop k).all validP = (validP (X.getD k ⟨#[]⟩) && (X.drop (k + 1)).all validP) := by
          rw [List.drop_eq_getElem_cons hkl, List.all_cons, List.getD_eq_getElem?_getD, List.getElem?_eq_getElem hkl]
          rfl
        rw [hdr] at hi
        obtain ⟨y, hy⟩ : ∃ y, X.getD k ⟨#[]⟩ = y := ⟨_, rfl⟩
        rw [hy] at hat hys hi
        have gt := goodT_p y hys
        have e3 := i64n ((k : Int) + 1) (k + 1) (by omega) (by omega)
        have e2 : IntKind.i64.wrap (1 + 1) = 2 := by decide
        unfold textA valT at gt
        unfold valT at hat
        cases hvy : validP y with
        | true =>
          rw [hvy] at hi gt
          have gt : PCall Tryd.prog glob 24 [.agg [ivC 4, stA y, nlA, nlA], ivC 2] (ivC 0) := gt
          refine gc1 (an hat (an hlx (an e2 (an e3 tt)))) (an gt.go tt) tt tt ⟨?_⟩
          refine ⟨m - 1, (k + 1, gg ++ [⟨[ivC 4, stA y, nlA, nlA], 0, true, 26⟩]), by omega, ⟨by show m - 1 + (k + 1) = N.length; omega, by rw [← hi, Bool.true_and]⟩, ?_, (by first | rfl | trivial)⟩
          simp only [ms24_0, putAll, blank, List.foldl_cons, List.foldl_nil, List.set_cons_succ, List.set_cons_zero, List.cons_append, List.nil_append, ALe, true_or, or_true, and_true, true_and, eq_self, reduceCtorEq, false_or]
        | false =>
          rw [hvy] at hi gt
          have gt : PCall Tryd.prog glob 24 [.agg [ivC 4, stA y, nlA, nlA], ivC 2] (ivC 2) := gt
          refine gc1 (an hat (an hlx (an e2 (an e3 tt)))) (an gt.go tt) tt tt ⟨?_⟩
          refine And.intro (by simp) ?_
          simp (disch := first | exact dch | fail) only [go_sem, Nat.reduceAdd, Nat.reduceSub, reduceIte, Nat.reduceEqDiff, Int.reduceToNat, Int.reduceBEq, Int.reduceBNe, aret, aretL, aret1, aenv]
          (repeat (with_reducible refine And.intro acl ?_))
          exact end0 (NR.v _) (by rw [← hi]; rfl)
      · have hk2 : k = X.length := by omega
        rw [hk2, List.drop_length] at hi
        refine gc1 tt tt tt tt ⟨?_⟩
        refine And.intro (by simp) ?_
        simp (disch := first | exact dch | fail) only [go_sem, Nat.reduceAdd, Nat.reduceSub, reduceIte, Nat.reduceEqDiff, Int.reduceToNat, Int.reduceBEq, Int.reduceBNe, aret, aretL, aret1, aenv]
        (repeat (with_reducible refine And.intro acl ?_))
        exact end0 (NR.v _) (by rw [← hi]; rfl)
theorem Good_p (N X : List ByteArray) (hX : X.length = N.length) (hl : N.length ≤ 1000) (hz : ∀ s ∈ N, s.size ≤ 9223372036854775807) (hx : ∀ s ∈ X, s.size ≤ 9223372036854775807) : PCall Tryd.prog glob 11 [pageA N X] (ivC (goodPg N X)) := by
  refine PCall.of ctx.nr (List.forall_mem_cons.2 ⟨NR.pageA N X, fun _ h => absurd h List.not_mem_nil⟩) (NR.v _) ?_
  refine lcall11 (by simp) 0 (Nat.le_refl _) ?_
  have gp := goodP_p N X hX hl hz hx
  unfold pageA at gp ⊢
  unfold lc11
  simp only [List.length_cons, List.length_nil, Nat.reduceAdd, Nat.reduceSub, List.replicate_succ, List.replicate_zero, List.cons_append, List.nil_append]
  refine gc1 tt (an gp.go tt) tt tt ⟨?_⟩
  refine And.intro (by simp) ?_
  simp (disch := first | exact dch | fail) only [go_sem, Nat.reduceAdd, Nat.reduceSub, reduceIte, Nat.reduceEqDiff, Int.reduceToNat, Int.reduceBEq, Int.reduceBNe, aret, aretL, aret1, aenv]
  (repeat (with_reducible refine And.intro acl ?_))
  exact end0 (NR.v _) rfl
/-- A name's value. -/
def getA (N X : List ByteArray) (name : ByteArray) : AV := if idxK N name 0 < 0 then .tup [.agg [ivC 0, stA ⟨#[]⟩, nlA, nlA], .v (.bool false)] else .tup [textA (X.getD (idxK N name 0).toNat ⟨#[]⟩), .v (.bool true)]
theorem idxK_lt : ∀ (l : List ByteArray) (x : ByteArray) (k : Nat), idxK l x k < ((k + l.length : Nat) : Int) ∧ (idxK l x k = -1 ∨ (k : Int) ≤ idxK l x k)
  | [], x, k => ⟨by simp only [idxK]; omega, .inl rfl⟩
  | a :: l, x, k => by
    have ih := idxK_lt l x (k + 1)
    unfold idxK
    rw [List.length_cons]
    split
    · exact ⟨by omega, .inr (Int.le_refl _)⟩
    · exact ⟨by omega, ih.2.imp id (by omega)⟩
theorem get_p (N X : List ByteArray) (hX : X.length = N.length) (hl : N.length ≤ 1000) (name : ByteArray) : PCall Tryd.prog glob 44 [pageA N X, stA name] (getA N X name) := by
  have hnr : NR (getA N X name) := by
    unfold getA
    split
    · exact NR.tup (by intro c hc; simp at hc; rcases hc with rfl | rfl; exact NR.agg (by intro c hc; simp at hc; rcases hc with rfl | rfl | rfl <;> exact NR.v _); exact NR.v _)
    · exact NR.tup (by intro c hc; simp at hc; rcases hc with rfl | rfl; exact NR.textA _; exact NR.v _)
  refine PCall.of ctx.nr (List.forall_mem_cons.2 ⟨NR.pageA N X, List.forall_mem_cons.2 ⟨NR.v _, fun _ h => absurd h List.not_mem_nil⟩⟩) hnr ?_
  refine lcall44 (by simp) 0 (Nat.le_refl _) ?_
  have ip := fun c => index_p N c name hl
  have hlt := idxK_lt N name 0
  have hlx := vals_length X
  rw [hX] at hlx
  unfold getA at hnr ⊢
  obtain ⟨i, hi⟩ : ∃ i, idxK N name 0 = i := ⟨_, rfl⟩
  rw [hi] at ip hlt hnr ⊢
  unfold pageA
  unfold lc44
  simp only [List.length_cons, List.length_nil, Nat.reduceAdd, Nat.reduceSub, List.replicate_succ, List.replicate_zero, List.cons_append, List.nil_append]
  by_cases h0 : i < 0
  · rw [if_pos h0] at hnr ⊢
    have d0 : decide (i < 0) = true := by rw [decide_eq_true_eq]; omega
    refine gc1 (an d0 tt) tt (an (fun u => (ip u).go) tt) tt ⟨?_⟩
    refine And.intro (by simp) ?_
    simp (disch := first | exact dch | fail) only [go_sem, Nat.reduceAdd, Nat.reduceSub, reduceIte, Nat.reduceEqDiff, Int.reduceToNat, Int.reduceBEq, Int.reduceBNe, aret, aretL, aret1, aenv]
    (repeat (with_reducible refine And.intro acl ?_))
    exact end0 hnr rfl
  · rw [if_neg h0] at hnr ⊢
    have d0 : decide (i < 0) = false := by rw [decide_eq_false_iff_not]; omega
    obtain ⟨k, rfl⟩ := Int.eq_ofNat_of_zero_le (show 0 ≤ i by omega)
    have hkl : k < X.length := by omega
    have d1 : decide ((k : Int) ≥ (N.length : Int)) = false := by rw [decide_eq_false_iff_not]; omega
    have hat := vals_at X k hkl
    rw [Int.toNat_natCast] at hnr ⊢
    obtain ⟨y, hy⟩ : ∃ y, X.getD k ⟨#[]⟩ = y := ⟨_, rfl⟩
    rw [hy] at hat hnr ⊢
    unfold textA at hnr ⊢
    unfold valT at hat hnr ⊢
    refine gc1 (an d0 (an d1 (an hat (an hlx tt)))) tt (an (fun u => (ip u).go) tt) tt ⟨?_⟩
    refine And.intro (by simp) ?_
    simp (disch := first | exact dch | fail) only [go_sem, Nat.reduceAdd, Nat.reduceSub, reduceIte, Nat.reduceEqDiff, Int.reduceToNat, Int.reduceBEq, Int.reduceBNe, aret, aretL, aret1, aenv]
    (repeat (with_reducible refine And.intro acl ?_))
    exact end0 hnr rfl
end Go.Abs.S
namespace Go.Abs.S
open Go.Proofs
set_option maxRecDepth 100000
def impCodA : FuncId → Bool := fun f => f == 20 || f == 22 || f == 35 || f == 51 || f == 67
/-- escutcheon/hour.Text -/
def lc9 : LCode := .seq (.reg []
  [⟨some 2, .assign (.const (.string { data := #[] })), none⟩,
  ⟨some 3, .assign (.const (.int .i64 0)), none⟩]) (.seq (.seq (.reg []
  [⟨some 8, .move (.tmp 0), none⟩,
  ⟨some 9, .call { callee := .value (.func 18), args := #[.tmp 8], argTypes := #[3] }, none⟩,
  ⟨some 10, .unOp .not 4 (.tmp 9), none⟩]) (.cond (.tmp 10) (.seq (.reg []
  [⟨some 2, .assign (.const (.string { data := #[] })), none⟩,
  ⟨some 3, .assign (.const (.int .i64 12)), none⟩]) (.ret)) (.skip))) (.seq (.reg []
  [⟨some 11, .move (.tmp 0), none⟩,
  ⟨some 12, .call { callee := .value (.func 19), args := #[.tmp 11], argTypes := #[3] }, none⟩,
  ⟨some 4, .alloc 58, none⟩,
  ⟨none, .store 58 (.tmp 4) (.tmp 12), none⟩]) (.seq (.reg []
  [⟨some 5, .alloc 63, none⟩]) (.seq (.reg []
  [⟨some 13, .fieldAddr 58 (.tmp 4) 0, none⟩,
  ⟨some 14, .fieldAddr 56 (.tmp 13) 0, none⟩,
  ⟨some 15, .load 3 (.tmp 14), none⟩,
  ⟨some 16, .call { callee := .value (.func 21), args := #[.tmp 15, .const (.int .i64 4)], argTypes := #[3, 3] }, none⟩,
  ⟨some 17, .call { callee := .value (.func 20), args := #[.tmp 5, .tmp 16], argTypes := #[63, 9] }, none⟩]) (.seq (.seq (.reg []
  [⟨some 18, .fieldAddr 58 (.tmp 4) 0, none⟩,
  ⟨some 19, .fieldAddr 56 (.tmp 18) 1, none⟩,
  ⟨some 20, .load 3 (.tmp 19), none⟩,
  ⟨some 21, .fieldAddr 58 (.tmp 4) 0, none⟩,
  ⟨some 22, .fieldAddr 56 (.tmp 21) 2, none⟩,
  ⟨some 23, .load 3 (.tmp 22), none⟩,
  ⟨some 24, .fieldAddr 58 (.tmp 4) 1, none⟩,
  ⟨some 25, .load 3 (.tmp 24), none⟩,
  ⟨some 26, .fieldAddr 58 (.tmp 4) 2, none⟩,
  ⟨some 27, .load 3 (.tmp 26), none⟩,
  ⟨some 28, .fieldAddr 58 (.tmp 4) 3, none⟩,
  ⟨some 29, .load 3 (.tmp 28), none⟩,
  ⟨some 30, .build 69 #[(0, .tmp 20), (1, .tmp 23), (2, .tmp 25), (3, .tmp 27), (4, .tmp 29)], none⟩,
  ⟨some 31, .move (.const (.int .i64 0)), none⟩]) (.block 0 (.loop (.seq (.reg []
  [⟨some 32, .binOp .lss 3 (.tmp 31) (.const (.int .i64 5)) 3, none⟩]) (.seq (.cond (.tmp 32) (.skip) (.exit 0)) (.seq (.block 1 (.seq (.reg []
  [⟨some 33, .move (.tmp 31), none⟩,
  ⟨some 34, .index 69 (.tmp 30) (.tmp 31), none⟩,
  ⟨some 6, .assign (.tmp 33), none⟩,
  ⟨some 7, .assign (.tmp 34), none⟩]) (.reg [⟨some 35, .move (.tmp 6), none⟩,
  ⟨some 36, .move (.tmp 6), none⟩,
  ⟨some 37, .binOp .add 3 (.tmp 36) (.const (.int .i64 1)) 3, none⟩,
  ⟨some 38, .slice 9 (.const (.string { data := #[45, 45, 84, 58, 58] })) (some (.tmp 35)) (some (.tmp 37)) none, none⟩,
  ⟨some 39, .move (.tmp 7), none⟩,
  ⟨some 40, .call { callee := .value (.func 21), args := #[.tmp 39, .const (.int .i64 2)], argTypes := #[3, 3] }, none⟩,
  ⟨some 41, .binOp .add 9 (.tmp 38) (.tmp 40) 9, none⟩]
  [⟨some 42, .call { callee := .value (.func 20), args := #[.tmp 5, .tmp 41], argTypes := #[63, 9] }, none⟩]))) (.reg []
  [⟨some 43, .binOp .add 3 (.tmp 31) (.const (.int .i64 1)) 3, none⟩,
  ⟨some 31, .move (.tmp 43), none⟩]))))))) (.seq (.reg []
  [⟨some 44, .call { callee := .value (.func 22), args := #[.tmp 5], argTypes := #[63] }, none⟩,
  ⟨some 45, .binOp .add 9 (.tmp 44) (.const (.string { data := #[90] })) 9, none⟩,
  ⟨some 2, .assign (.tmp 45), none⟩,
  ⟨some 3, .assign (.const (.int .i64 0)), none⟩]) (.ret)))))))
def ms9_0 : List Nat := [0, 1, 4, 6, 7, 8, 9, 10, 11, 12, 13, 14, 15, 16, 17, 18, 19, 20, 21, 22, 23, 24, 25, 26, 27, 28, 29, 31, 32, 33, 34, 35, 36, 37, 38, 39, 40, 41, 42, 43]
theorem ls9 : Tryd.f9.body.map (strip Tryd.prog impCodA) = some lc9 := by kernel_rfl
theorem lcall9 {args : List AV} (hargs : args.length ≤ 46) {H0 : AHeap} (lo : Nat) (hlo : H0.length ≤ lo) {r0 : AV} {H0' : AHeap}
    (h : lavc Tryd.prog glob lc9 (args ++ List.replicate (46 - args.length) (.v undef)) H0 fun e t H => (e = .normal ∨ e = .ret) ∧ aret Tryd.prog t H [Go.ResultVar.tmp 2, Go.ResultVar.tmp 3] fun r => Fin lo H r r0 H0') :
    ACall Tryd.prog glob (H0.length == 0) 9 args H0 r0 H0' := LCall' ctx Tryd.func9 (by kernel_rfl) ls9 (by kernel_rfl) (by kernel_rfl) hargs lo hlo h
/-- escutcheon/hour.time -/
def lc18 : LCode := .seq (.reg []
  [⟨some 2, .assign (.const (.bool false)), none⟩]) (.seq (.reg []
  [⟨some 3, .move (.tmp 0), none⟩,
  ⟨some 4, .call { callee := .value (.func 31), args := #[], argTypes := #[] }, none⟩,
  ⟨some 5, .binOp .geq 3 (.tmp 3) (.tmp 4) 3, none⟩,
  ⟨some 6, .move (.tmp 5), none⟩,
  ⟨some 7, .move (.tmp 0), (some (6, true))⟩,
  ⟨some 8, .call { callee := .value (.func 32), args := #[], argTypes := #[] }, (some (6, true))⟩,
  ⟨some 9, .binOp .leq 3 (.tmp 7) (.tmp 8) 3, (some (6, true))⟩,
  ⟨some 10, .pick (.tmp 6) (.tmp 9) (.const (.bool false)), none⟩,
  ⟨some 2, .assign (.tmp 10), none⟩]) (.ret))
theorem ls18 : Tryd.f18.body.map (strip Tryd.prog impCodA) = some lc18 := by kernel_rfl
theorem lcall18 {args : List AV} (hargs : args.length ≤ 11) {H0 : AHeap} (lo : Nat) (hlo : H0.length ≤ lo) {r0 : AV} {H0' : AHeap}
    (h : lavc Tryd.prog glob lc18 (args ++ List.replicate (11 - args.length) (.v undef)) H0 fun e t H => (e = .normal ∨ e = .ret) ∧ aret Tryd.prog t H [Go.ResultVar.tmp 2] fun r => Fin lo H r r0 H0') :
    ACall Tryd.prog glob (H0.length == 0) 18 args H0 r0 H0' := LCall' ctx Tryd.func18 (by kernel_rfl) ls18 (by kernel_rfl) (by kernel_rfl) hargs lo hlo h
/-- escutcheon/hour.of -/
def lc19 : LCode := .seq (.reg []
  [⟨some 2, .alloc 58, none⟩]) (.seq (.reg []
  [⟨some 4, .move (.tmp 0), none⟩,
  ⟨some 5, .binOp .add 3 (.tmp 4) (.const (.int .i64 62167219200)) 3, none⟩,
  ⟨some 0, .assign (.tmp 5), none⟩]) (.seq (.reg []
  [⟨some 6, .move (.tmp 0), none⟩,
  ⟨some 7, .binOp .quo 3 (.tmp 6) (.const (.int .i64 86400)) 3, none⟩,
  ⟨some 8, .binOp .quo 3 (.tmp 7) (.const (.int .i64 366)) 3, none⟩,
  ⟨some 9, .move (.tmp 0), none⟩,
  ⟨some 10, .binOp .quo 3 (.tmp 9) (.const (.int .i64 86400)) 3, none⟩,
  ⟨some 11, .build 56 #[(0, .tmp 8), (1, .const (.int .i64 1)), (2, .tmp 10)], none⟩,
  ⟨some 3, .alloc 56, none⟩,
  ⟨none, .store 56 (.tmp 3) (.tmp 11), none⟩]) (.seq (.block 0 (.loop (.seq (.seq (.reg []
  [⟨some 12, .fieldAddr 56 (.tmp 3) 0, none⟩,
  ⟨some 13, .load 3 (.tmp 12), none⟩,
  ⟨some 14, .binOp .add 3 (.tmp 13) (.const (.int .i64 1)) 3, none⟩,
  ⟨some 15, .call { callee := .value (.func 33), args := #[.tmp 14], argTypes := #[3] }, none⟩,
  ⟨some 16, .move (.tmp 0), none⟩,
  ⟨some 17, .binOp .quo 3 (.tmp 16) (.const (.int .i64 86400)) 3, none⟩,
  ⟨some 18, .binOp .leq 3 (.tmp 15) (.tmp 17) 3, none⟩]) (.cond (.tmp 18) (.skip) (.exit 0))) (.block 1 (.reg []
  [⟨some 19, .fieldAddr 56 (.tmp 3) 0, none⟩,
  ⟨some 20, .load 3 (.tmp 19), none⟩,
  ⟨some 21, .binOp .add 3 (.tmp 20) (.const (.int .i64 1)) 3, none⟩,
  ⟨some 22, .fieldAddr 56 (.tmp 3) 0, none⟩,
  ⟨none, .store 3 (.tmp 22) (.tmp 21), none⟩]))))) (.seq (.reg [⟨some 23, .fieldAddr 56 (.tmp 3) 2, none⟩,
  ⟨some 24, .load 3 (.tmp 23), none⟩,
  ⟨some 25, .fieldAddr 56 (.tmp 3) 0, none⟩,
  ⟨some 26, .load 3 (.tmp 25), none⟩,
  ⟨some 27, .call { callee := .value (.func 33), args := #[.tmp 26], argTypes := #[3] }, none⟩,
  ⟨some 28, .binOp .sub 3 (.tmp 27) (.const (.int .i64 1)) 3, none⟩,
  ⟨some 29, .binOp .sub 3 (.tmp 24) (.tmp 28) 3, none⟩,
  ⟨some 30, .fieldAddr 56 (.tmp 3) 2, none⟩]
  [⟨none, .store 3 (.tmp 30) (.tmp 29), none⟩]) (.seq (.block 2 (.loop (.seq (.seq (.reg [⟨some 31, .fieldAddr 56 (.tmp 3) 2, none⟩,
  ⟨some 32, .load 3 (.tmp 31), none⟩,
  ⟨some 33, .fieldAddr 56 (.tmp 3) 0, none⟩,
  ⟨some 34, .load 3 (.tmp 33), none⟩,
  ⟨some 35, .fieldAddr 56 (.tmp 3) 1, none⟩,
  ⟨some 36, .load 3 (.tmp 35), none⟩,
  ⟨some 37, .call { callee := .value (.func 34), args := #[.tmp 34, .tmp 36], argTypes := #[3, 3] }, none⟩,
  ⟨some 38, .binOp .gtr 3 (.tmp 32) (.tmp 37) 3, none⟩]
  []) (.cond (.tmp 38) (.skip) (.exit 2))) (.block 3 (.seq (.reg [⟨some 39, .fieldAddr 56 (.tmp 3) 2, none⟩,
  ⟨some 40, .load 3 (.tmp 39), none⟩,
  ⟨some 41, .fieldAddr 56 (.tmp 3) 0, none⟩,
  ⟨some 42, .load 3 (.tmp 41), none⟩,
  ⟨some 43, .fieldAddr 56 (.tmp 3) 1, none⟩,
  ⟨some 44, .load 3 (.tmp 43), none⟩,
  ⟨some 45, .call { callee := .value (.func 34), args := #[.tmp 42, .tmp 44], argTypes := #[3, 3] }, none⟩,
  ⟨some 46, .binOp .sub 3 (.tmp 40) (.tmp 45) 3, none⟩,
  ⟨some 47, .fieldAddr 56 (.tmp 3) 2, none⟩]
  [⟨none, .store 3 (.tmp 47) (.tmp 46), none⟩]) (.reg []
  [⟨some 48, .fieldAddr 56 (.tmp 3) 1, none⟩,
  ⟨some 49, .load 3 (.tmp 48), none⟩,
  ⟨some 50, .binOp .add 3 (.tmp 49) (.const (.int .i64 1)) 3, none⟩,
  ⟨some 51, .fieldAddr 56 (.tmp 3) 1, none⟩,
  ⟨none, .store 3 (.tmp 51) (.tmp 50), none⟩])))))) (.seq (.reg []
  [⟨some 52, .move (.tmp 0), none⟩,
  ⟨some 53, .binOp .rem 3 (.tmp 52) (.const (.int .i64 86400)) 3, none⟩,
  ⟨some 0, .assign (.tmp 53), none⟩]) (.seq (.reg []
  [⟨some 54, .load 56 (.tmp 3), none⟩,
  ⟨some 55, .move (.tmp 0), none⟩,
  ⟨some 56, .binOp .quo 3 (.tmp 55) (.const (.int .i64 3600)) 3, none⟩,
  ⟨some 57, .move (.tmp 0), none⟩,
  ⟨some 58, .binOp .rem 3 (.tmp 57) (.const (.int .i64 3600)) 3, none⟩,
  ⟨some 59, .binOp .quo 3 (.tmp 58) (.const (.int .i64 60)) 3, none⟩,
  ⟨some 60, .move (.tmp 0), none⟩,
  ⟨some 61, .binOp .rem 3 (.tmp 60) (.const (.int .i64 60)) 3, none⟩,
  ⟨some 62, .build 58 #[(0, .tmp 54), (1, .tmp 56), (2, .tmp 59), (3, .tmp 61)], none⟩,
  ⟨none, .store 58 (.tmp 2) (.tmp 62), none⟩]) (.ret))))))))
def ms19_0 : List Nat := [1, 4, 5, 6, 7, 8, 9, 10, 11, 12, 13, 14, 15, 16, 17, 18, 19, 20, 21, 22]
def ms19_1 : List Nat := [1, 4, 5, 6, 7, 8, 9, 10, 11, 12, 13, 14, 15, 16, 17, 18, 19, 20, 21, 22, 23, 24, 25, 26, 27, 28, 29, 30, 31, 32, 33, 34, 35, 36, 37, 38, 39, 40, 41, 42, 43, 44, 45, 46, 47, 48, 49, 50, 51]
theorem ls19 : Tryd.f19.body.map (strip Tryd.prog impCodA) = some lc19 := by kernel_rfl
theorem lcall19 {args : List AV} (hargs : args.length ≤ 63) {H0 : AHeap} (lo : Nat) (hlo : H0.length ≤ lo) {r0 : AV} {H0' : AHeap}
    (h : lavc Tryd.prog glob lc19 (args ++ List.replicate (63 - args.length) (.v undef)) H0 fun e t H => (e = .normal ∨ e = .ret) ∧ aret Tryd.prog t H [Go.ResultVar.cell 2 58] fun r => Fin lo H r r0 H0') :
    ACall Tryd.prog glob (H0.length == 0) 19 args H0 r0 H0' := LCall' ctx Tryd.func19 (by kernel_rfl) ls19 (by kernel_rfl) (by kernel_rfl) hargs lo hlo h
/-- escutcheon/hour.padded -/
def lc21 : LCode := .seq (.reg []
  [⟨some 4, .assign (.const (.string { data := #[] })), none⟩]) (.seq (.reg []
  [⟨some 6, .move (.tmp 0), none⟩,
  ⟨some 7, .call { callee := .value (.func 36), args := #[.tmp 6], argTypes := #[3] }, none⟩,
  ⟨some 5, .assign (.tmp 7), none⟩]) (.seq (.reg []
  [⟨some 8, .move (.tmp 1), none⟩,
  ⟨some 9, .move (.tmp 5), none⟩,
  ⟨some 10, .call { callee := .builtin .len, args := #[.tmp 9], argTypes := #[9] }, none⟩,
  ⟨some 11, .binOp .sub 3 (.tmp 8) (.tmp 10) 3, none⟩,
  ⟨some 12, .call { callee := .value (.func 37), args := #[.const (.string { data := #[48] }), .tmp 11], argTypes := #[9, 3] }, none⟩,
  ⟨some 13, .move (.tmp 5), none⟩,
  ⟨some 14, .binOp .add 9 (.tmp 12) (.tmp 13) 9, none⟩,
  ⟨some 4, .assign (.tmp 14), none⟩]) (.ret)))
theorem ls21 : Tryd.f21.body.map (strip Tryd.prog impCodA) = some lc21 := by kernel_rfl
theorem lcall21 {args : List AV} (hargs : args.length ≤ 15) {H0 : AHeap} (lo : Nat) (hlo : H0.length ≤ lo) {r0 : AV} {H0' : AHeap}
    (h : lavc Tryd.prog glob lc21 (args ++ List.replicate (15 - args.length) (.v undef)) H0 fun e t H => (e = .normal ∨ e = .ret) ∧ aret Tryd.prog t H [Go.ResultVar.tmp 4] fun r => Fin lo H r r0 H0') :
    ACall Tryd.prog glob (H0.length == 0) 21 args H0 r0 H0' := LCall' ctx Tryd.func21 (by kernel_rfl) ls21 (by kernel_rfl) (by kernel_rfl) hargs lo hlo h
/-- escutcheon/escutcheonref21.Seconds -/
def lc26 : LCode := .seq (.reg []
  [⟨some 12, .assign (.const (.int .i64 0)), none⟩]) (.seq (.reg []
  [⟨some 13, .assign (.const (.int .i64 0)), none⟩]) (.seq (.seq (.reg []
  [⟨some 14, .assign (.const (.int .i64 1970)), none⟩]) (.block 0 (.loop (.seq (.seq (.reg []
  [⟨some 17, .move (.tmp 14), none⟩,
  ⟨some 18, .move (.tmp 0), none⟩,
  ⟨some 19, .binOp .lss 3 (.tmp 17) (.tmp 18) 3, none⟩]) (.cond (.tmp 19) (.skip) (.exit 0))) (.seq (.block 1 (.reg []
  [⟨some 22, .move (.tmp 13), none⟩,
  ⟨some 23, .move (.tmp 14), none⟩,
  ⟨some 24, .call { callee := .value (.func 42), args := #[.tmp 23], argTypes := #[3] }, none⟩,
  ⟨some 25, .binOp .add 3 (.tmp 22) (.tmp 24) 3, none⟩,
  ⟨some 13, .assign (.tmp 25), none⟩])) (.reg []
  [⟨some 20, .move (.tmp 14), none⟩,
  ⟨some 21, .binOp .add 3 (.tmp 20) (.const (.int .i64 1)) 3, none⟩,
  ⟨some 14, .assign (.tmp 21), none⟩])))))) (.seq (.seq (.reg []
  [⟨some 26, .move (.tmp 0), none⟩,
  ⟨some 15, .assign (.tmp 26), none⟩]) (.block 2 (.loop (.seq (.seq (.reg []
  [⟨some 27, .move (.tmp 15), none⟩,
  ⟨some 28, .binOp .lss 3 (.tmp 27) (.const (.int .i64 1970)) 3, none⟩]) (.cond (.tmp 28) (.skip) (.exit 2))) (.seq (.block 3 (.reg []
  [⟨some 31, .move (.tmp 13), none⟩,
  ⟨some 32, .move (.tmp 15), none⟩,
  ⟨some 33, .call { callee := .value (.func 42), args := #[.tmp 32], argTypes := #[3] }, none⟩,
  ⟨some 34, .binOp .sub 3 (.tmp 31) (.tmp 33) 3, none⟩,
  ⟨some 13, .assign (.tmp 34), none⟩])) (.reg []
  [⟨some 29, .move (.tmp 15), none⟩,
  ⟨some 30, .binOp .add 3 (.tmp 29) (.const (.int .i64 1)) 3, none⟩,
  ⟨some 15, .assign (.tmp 30), none⟩])))))) (.seq (.seq (.reg []
  [⟨some 16, .assign (.const (.int .i64 1)), none⟩]) (.block 4 (.loop (.seq (.seq (.reg []
  [⟨some 35, .move (.tmp 16), none⟩,
  ⟨some 36, .move (.tmp 1), none⟩,
  ⟨some 37, .binOp .lss 3 (.tmp 35) (.tmp 36) 3, none⟩]) (.cond (.tmp 37) (.skip) (.exit 4))) (.seq (.block 5 (.reg []
  [⟨some 40, .move (.tmp 13), none⟩,
  ⟨some 41, .move (.tmp 0), none⟩,
  ⟨some 42, .move (.tmp 16), none⟩,
  ⟨some 43, .call { callee := .value (.func 43), args := #[.tmp 41, .tmp 42], argTypes := #[3, 3] }, none⟩,
  ⟨some 44, .binOp .add 3 (.tmp 40) (.tmp 43) 3, none⟩,
  ⟨some 13, .assign (.tmp 44), none⟩])) (.reg []
  [⟨some 38, .move (.tmp 16), none⟩,
  ⟨some 39, .binOp .add 3 (.tmp 38) (.const (.int .i64 1)) 3, none⟩,
  ⟨some 16, .assign (.tmp 39), none⟩])))))) (.seq (.reg []
  [⟨some 45, .move (.tmp 13), none⟩,
  ⟨some 46, .move (.tmp 2), none⟩,
  ⟨some 47, .binOp .add 3 (.tmp 45) (.tmp 46) 3, none⟩,
  ⟨some 48, .binOp .sub 3 (.tmp 47) (.const (.int .i64 1)) 3, none⟩,
  ⟨some 49, .binOp .mul 3 (.tmp 48) (.const (.int .i64 24)) 3, none⟩,
  ⟨some 50, .move (.tmp 3), none⟩,
  ⟨some 51, .binOp .add 3 (.tmp 49) (.tmp 50) 3, none⟩,
  ⟨some 52, .binOp .mul 3 (.tmp 51) (.const (.int .i64 3600)) 3, none⟩,
  ⟨some 53, .move (.tmp 4), none⟩,
  ⟨some 54, .binOp .mul 3 (.tmp 53) (.const (.int .i64 60)) 3, none⟩,
  ⟨some 55, .binOp .add 3 (.tmp 52) (.tmp 54) 3, none⟩,
  ⟨some 56, .move (.tmp 5), none⟩,
  ⟨some 57, .binOp .add 3 (.tmp 55) (.tmp 56) 3, none⟩,
  ⟨some 12, .assign (.tmp 57), none⟩]) (.ret))))))
def ms26_0 : List Nat := [6, 7, 8, 9, 10, 11, 13, 14, 17, 18, 19, 20, 21, 22, 23, 24, 25]
def ms26_1 : List Nat := [6, 7, 8, 9, 10, 11, 13, 14, 15, 17, 18, 19, 20, 21, 22, 23, 24, 25, 26, 27, 28, 29, 30, 31, 32, 33, 34]
def ms26_2 : List Nat := [6, 7, 8, 9, 10, 11, 13, 14, 15, 16, 17, 18, 19, 20, 21, 22, 23, 24, 25, 26, 27, 28, 29, 30, 31, 32, 33, 34, 35, 36, 37, 38, 39, 40, 41, 42, 43, 44]
theorem ls26 : Tryd.f26.body.map (strip Tryd.prog impCodA) = some lc26 := by kernel_rfl
theorem lcall26 {args : List AV} (hargs : args.length ≤ 58) {H0 : AHeap} (lo : Nat) (hlo : H0.length ≤ lo) {r0 : AV} {H0' : AHeap}
    (h : lavc Tryd.prog glob lc26 (args ++ List.replicate (58 - args.length) (.v undef)) H0 fun e t H => (e = .normal ∨ e = .ret) ∧ aret Tryd.prog t H [Go.ResultVar.tmp 12] fun r => Fin lo H r r0 H0') :
    ACall Tryd.prog glob (H0.length == 0) 26 args H0 r0 H0' := LCall' ctx Tryd.func26 (by kernel_rfl) ls26 (by kernel_rfl) (by kernel_rfl) hargs lo hlo h
/-- escutcheon/hour.first -/
def lc31 : LCode := .seq (.reg []
  [⟨some 0, .assign (.const (.int .i64 0)), none⟩]) (.seq (.reg []
  [⟨some 0, .assign (.const (.int .i64 (-62167219200))), none⟩]) (.ret))
theorem ls31 : Tryd.f31.body.map (strip Tryd.prog impCodA) = some lc31 := by kernel_rfl
theorem lcall31 {args : List AV} (hargs : args.length ≤ 1) {H0 : AHeap} (lo : Nat) (hlo : H0.length ≤ lo) {r0 : AV} {H0' : AHeap}
    (h : lavc Tryd.prog glob lc31 (args ++ List.replicate (1 - args.length) (.v undef)) H0 fun e t H => (e = .normal ∨ e = .ret) ∧ aret Tryd.prog t H [Go.ResultVar.tmp 0] fun r => Fin lo H r r0 H0') :
    ACall Tryd.prog glob (H0.length == 0) 31 args H0 r0 H0' := LCall' ctx Tryd.func31 (by kernel_rfl) ls31 (by kernel_rfl) (by kernel_rfl) hargs lo hlo h
/-- escutcheon/hour.last -/
def lc32 : LCode := .seq (.reg []
  [⟨some 0, .assign (.const (.int .i64 0)), none⟩]) (.seq (.reg []
  [⟨some 1, .call { callee := .value (.func 33), args := #[.const (.int .i64 10000)], argTypes := #[3] }, none⟩,
  ⟨some 2, .binOp .sub 3 (.tmp 1) (.const (.int .i64 719528)) 3, none⟩,
  ⟨some 3, .binOp .mul 3 (.tmp 2) (.const (.int .i64 86400)) 3, none⟩,
  ⟨some 4, .binOp .sub 3 (.tmp 3) (.const (.int .i64 1)) 3, none⟩,
  ⟨some 0, .assign (.tmp 4), none⟩]) (.ret))
theorem ls32 : Tryd.f32.body.map (strip Tryd.prog impCodA) = some lc32 := by kernel_rfl
theorem lcall32 {args : List AV} (hargs : args.length ≤ 5) {H0 : AHeap} (lo : Nat) (hlo : H0.length ≤ lo) {r0 : AV} {H0' : AHeap}
    (h : lavc Tryd.prog glob lc32 (args ++ List.replicate (5 - args.length) (.v undef)) H0 fun e t H => (e = .normal ∨ e = .ret) ∧ aret Tryd.prog t H [Go.ResultVar.tmp 0] fun r => Fin lo H r r0 H0') :
    ACall Tryd.prog glob (H0.length == 0) 32 args H0 r0 H0' := LCall' ctx Tryd.func32 (by kernel_rfl) ls32 (by kernel_rfl) (by kernel_rfl) hargs lo hlo h
/-- escutcheon/hour.ahead -/
def lc33 : LCode := .seq (.reg []
  [⟨some 2, .assign (.const (.int .i64 0)), none⟩]) (.seq (.reg []
  [⟨some 3, .move (.tmp 0), none⟩,
  ⟨some 4, .binOp .mul 3 (.tmp 3) (.const (.int .i64 365)) 3, none⟩,
  ⟨some 5, .move (.tmp 0), none⟩,
  ⟨some 6, .binOp .add 3 (.tmp 5) (.const (.int .i64 3)) 3, none⟩,
  ⟨some 7, .binOp .quo 3 (.tmp 6) (.const (.int .i64 4)) 3, none⟩,
  ⟨some 8, .binOp .add 3 (.tmp 4) (.tmp 7) 3, none⟩,
  ⟨some 9, .move (.tmp 0), none⟩,
  ⟨some 10, .binOp .add 3 (.tmp 9) (.const (.int .i64 99)) 3, none⟩,
  ⟨some 11, .binOp .quo 3 (.tmp 10) (.const (.int .i64 100)) 3, none⟩,
  ⟨some 12, .binOp .sub 3 (.tmp 8) (.tmp 11) 3, none⟩,
  ⟨some 13, .move (.tmp 0), none⟩,
  ⟨some 14, .binOp .add 3 (.tmp 13) (.const (.int .i64 399)) 3, none⟩,
  ⟨some 15, .binOp .quo 3 (.tmp 14) (.const (.int .i64 400)) 3, none⟩,
  ⟨some 16, .binOp .add 3 (.tmp 12) (.tmp 15) 3, none⟩,
  ⟨some 2, .assign (.tmp 16), none⟩]) (.ret))
theorem ls33 : Tryd.f33.body.map (strip Tryd.prog impCodA) = some lc33 := by kernel_rfl
theorem lcall33 {args : List AV} (hargs : args.length ≤ 17) {H0 : AHeap} (lo : Nat) (hlo : H0.length ≤ lo) {r0 : AV} {H0' : AHeap}
    (h : lavc Tryd.prog glob lc33 (args ++ List.replicate (17 - args.length) (.v undef)) H0 fun e t H => (e = .normal ∨ e = .ret) ∧ aret Tryd.prog t H [Go.ResultVar.tmp 2] fun r => Fin lo H r r0 H0') :
    ACall Tryd.prog glob (H0.length == 0) 33 args H0 r0 H0' := LCall' ctx Tryd.func33 (by kernel_rfl) ls33 (by kernel_rfl) (by kernel_rfl) hargs lo hlo h
/-- escutcheon/hour.Days -/
def lc34 : LCode := .seq (.reg []
  [⟨some 4, .assign (.const (.int .i64 0)), none⟩]) (.seq (.seq (.reg []
  [⟨some 5, .move (.tmp 0), none⟩,
  ⟨some 6, .binOp .lss 3 (.tmp 5) (.const (.int .i64 0)) 3, none⟩,
  ⟨some 7, .move (.tmp 6), none⟩,
  ⟨some 8, .move (.tmp 0), (some (7, false))⟩,
  ⟨some 9, .binOp .gtr 3 (.tmp 8) (.const (.int .i64 9999)) 3, (some (7, false))⟩,
  ⟨some 10, .pick (.tmp 7) (.const (.bool true)) (.tmp 9), none⟩,
  ⟨some 11, .move (.tmp 10), none⟩,
  ⟨some 12, .move (.tmp 1), (some (11, false))⟩,
  ⟨some 13, .binOp .lss 3 (.tmp 12) (.const (.int .i64 1)) 3, (some (11, false))⟩,
  ⟨some 14, .pick (.tmp 11) (.const (.bool true)) (.tmp 13), none⟩,
  ⟨some 15, .move (.tmp 14), none⟩,
  ⟨some 16, .move (.tmp 1), (some (15, false))⟩,
  ⟨some 17, .binOp .gtr 3 (.tmp 16) (.const (.int .i64 12)) 3, (some (15, false))⟩,
  ⟨some 18, .pick (.tmp 15) (.const (.bool true)) (.tmp 17), none⟩]) (.cond (.tmp 18) (.seq (.reg []
  [⟨some 4, .assign (.const (.int .i64 0)), none⟩]) (.ret)) (.skip))) (.seq (.seq (.reg []
  [⟨some 19, .move (.tmp 1), none⟩,
  ⟨some 20, .binOp .eql 3 (.tmp 19) (.const (.int .i64 2)) 3, none⟩,
  ⟨some 21, .move (.tmp 20), none⟩,
  ⟨some 22, .move (.tmp 0), (some (21, true))⟩,
  ⟨some 23, .call { callee := .value (.func 46), args := #[.tmp 22], argTypes := #[3] }, (some (21, true))⟩,
  ⟨some 24, .pick (.tmp 21) (.tmp 23) (.const (.bool false)), none⟩]) (.cond (.tmp 24) (.seq (.reg []
  [⟨some 4, .assign (.const (.int .i64 29)), none⟩]) (.ret)) (.skip))) (.seq (.reg []
  [⟨some 25, .move (.tmp 1), none⟩,
  ⟨some 26, .binOp .sub 3 (.tmp 25) (.const (.int .i64 1)) 3, none⟩,
  ⟨some 27, .indexAddr 94 (.global 0) (.tmp 26), none⟩,
  ⟨some 28, .load 3 (.tmp 27), none⟩,
  ⟨some 4, .assign (.tmp 28), none⟩]) (.ret))))
theorem ls34 : Tryd.f34.body.map (strip Tryd.prog impCodA) = some lc34 := by kernel_rfl
theorem lcall34 {args : List AV} (hargs : args.length ≤ 29) {H0 : AHeap} (lo : Nat) (hlo : H0.length ≤ lo) {r0 : AV} {H0' : AHeap}
    (h : lavc Tryd.prog glob lc34 (args ++ List.replicate (29 - args.length) (.v undef)) H0 fun e t H => (e = .normal ∨ e = .ret) ∧ aret Tryd.prog t H [Go.ResultVar.tmp 4] fun r => Fin lo H r r0 H0') :
    ACall Tryd.prog glob (H0.length == 0) 34 args H0 r0 H0' := LCall' ctx Tryd.func34 (by kernel_rfl) ls34 (by kernel_rfl) (by kernel_rfl) hargs lo hlo h
/-- strconv.Itoa -/
def lc36 : LCode := .seq (.reg []
  [⟨some 2, .assign (.const (.string { data := #[] })), none⟩]) (.seq (.reg []
  [⟨some 3, .move (.tmp 0), none⟩,
  ⟨some 4, .call { callee := .value (.func 48), args := #[.tmp 3], argTypes := #[3] }, none⟩,
  ⟨some 2, .assign (.tmp 4), none⟩]) (.ret))
theorem ls36 : Tryd.f36.body.map (strip Tryd.prog impCodA) = some lc36 := by kernel_rfl
theorem lcall36 {args : List AV} (hargs : args.length ≤ 5) {H0 : AHeap} (lo : Nat) (hlo : H0.length ≤ lo) {r0 : AV} {H0' : AHeap}
    (h : lavc Tryd.prog glob lc36 (args ++ List.replicate (5 - args.length) (.v undef)) H0 fun e t H => (e = .normal ∨ e = .ret) ∧ aret Tryd.prog t H [Go.ResultVar.tmp 2] fun r => Fin lo H r r0 H0') :
    ACall Tryd.prog glob (H0.length == 0) 36 args H0 r0 H0' := LCall' ctx Tryd.func36 (by kernel_rfl) ls36 (by kernel_rfl) (by kernel_rfl) hargs lo hlo h
/-- strings.Repeat -/
def lc37 : LCode := .seq (.reg []
  [⟨some 4, .assign (.const (.string { data := #[] })), none⟩]) (.seq (.seq (.reg []
  [⟨some 11, .move (.tmp 1), none⟩]) (.block 0 (.seq (.reg []
  [⟨some 13, .binOp .eql 3 (.tmp 11) (.const (.int .i64 0)) 3, none⟩,
  ⟨some 12, .assign (.tmp 13), none⟩]) (.cond (.tmp 12) (.seq (.reg []
  [⟨some 4, .assign (.const (.string { data := #[] })), none⟩]) (.ret)) (.seq (.reg []
  [⟨some 15, .binOp .eql 3 (.tmp 11) (.const (.int .i64 1)) 3, none⟩,
  ⟨some 14, .assign (.tmp 15), none⟩]) (.cond (.tmp 14) (.seq (.reg []
  [⟨some 16, .move (.tmp 0), none⟩,
  ⟨some 4, .assign (.tmp 16), none⟩]) (.ret)) (.skip))))))) (.seq (.seq (.reg []
  [⟨some 17, .move (.tmp 1), none⟩,
  ⟨some 18, .binOp .lss 3 (.tmp 17) (.const (.int .i64 0)) 3, none⟩]) (.cond (.tmp 18) (.reg []
  [⟨some 19, .makeInterface 9 (.const (.string { data := #[115, 116, 114, 105, 110, 103, 115, 58, 32, 110, 101, 103, 97, 116, 105, 118, 101, 32, 82, 101, 112, 101, 97, 116, 32, 99, 111, 117, 110, 116] })), none⟩,
  ⟨none, .panic (.tmp 19), none⟩]) (.skip))) (.seq (.reg []
  [⟨some 21, .move (.tmp 0), none⟩,
  ⟨some 22, .call { callee := .builtin .len, args := #[.tmp 21], argTypes := #[9] }, none⟩,
  ⟨some 23, .convert 3 97 (.tmp 22), none⟩,
  ⟨some 24, .move (.tmp 1), none⟩,
  ⟨some 25, .convert 3 97 (.tmp 24), none⟩,
  ⟨some 26, .call { callee := .value (.func 49), args := #[.tmp 23, .tmp 25], argTypes := #[97, 97] }, none⟩,
  ⟨some 20, .move (.tmp 26), none⟩,
  ⟨some 27, .extract (.tmp 20) 0, none⟩,
  ⟨some 28, .extract (.tmp 20) 1, none⟩,
  ⟨some 5, .assign (.tmp 27), none⟩,
  ⟨some 6, .assign (.tmp 28), none⟩]) (.seq (.seq (.reg []
  [⟨some 29, .move (.tmp 5), none⟩,
  ⟨some 30, .binOp .gtr 97 (.tmp 29) (.const (.int .u64 0)) 97, none⟩,
  ⟨some 31, .move (.tmp 30), none⟩,
  ⟨some 32, .move (.tmp 6), (some (31, false))⟩,
  ⟨some 33, .binOp .gtr 97 (.tmp 32) (.const (.int .u64 9223372036854775807)) 97, (some (31, false))⟩,
  ⟨some 34, .pick (.tmp 31) (.const (.bool true)) (.tmp 33), none⟩]) (.cond (.tmp 34) (.reg []
  [⟨some 35, .makeInterface 9 (.const (.string { data := #[115, 116, 114, 105, 110, 103, 115, 58, 32, 82, 101, 112, 101, 97, 116, 32, 111, 117, 116, 112, 117, 116, 32, 108, 101, 110, 103, 116, 104, 32, 111, 118, 101, 114, 102, 108, 111, 119] })), none⟩,
  ⟨none, .panic (.tmp 35), none⟩]) (.skip))) (.seq (.reg []
  [⟨some 36, .move (.tmp 6), none⟩,
  ⟨some 37, .convert 97 3 (.tmp 36), none⟩,
  ⟨some 7, .assign (.tmp 37), none⟩]) (.seq (.seq (.reg []
  [⟨some 38, .move (.tmp 0), none⟩,
  ⟨some 39, .call { callee := .builtin .len, args := #[.tmp 38], argTypes := #[9] }, none⟩,
  ⟨some 40, .binOp .eql 3 (.tmp 39) (.const (.int .i64 0)) 3, none⟩]) (.cond (.tmp 40) (.seq (.reg []
  [⟨some 4, .assign (.const (.string { data := #[] })), none⟩]) (.ret)) (.skip))) (.seq (.seq (.reg []
  [⟨some 41, .move (.tmp 0), none⟩,
  ⟨some 42, .index 9 (.tmp 41) (.const (.int .i64 0)), none⟩]) (.block 1 (.seq (.seq (.reg []
  [⟨some 44, .binOp .eql 5 (.tmp 42) (.const (.int .u8 32)) 5, none⟩,
  ⟨some 43, .assign (.tmp 44), none⟩]) (.cond (.tmp 43) (.skip) (.seq (.reg []
  [⟨some 45, .binOp .eql 5 (.tmp 42) (.const (.int .u8 45)) 5, none⟩,
  ⟨some 43, .assign (.tmp 45), none⟩]) (.cond (.tmp 43) (.skip) (.seq (.reg []
  [⟨some 46, .binOp .eql 5 (.tmp 42) (.const (.int .u8 48)) 5, none⟩,
  ⟨some 43, .assign (.tmp 46), none⟩]) (.cond (.tmp 43) (.skip) (.seq (.reg []
  [⟨some 47, .binOp .eql 5 (.tmp 42) (.const (.int .u8 61)) 5, none⟩,
  ⟨some 43, .assign (.tmp 47), none⟩]) (.cond (.tmp 43) (.skip) (.reg []
  [⟨some 48, .binOp .eql 5 (.tmp 42) (.const (.int .u8 9)) 5, none⟩,
  ⟨some 43, .assign (.tmp 48), none⟩]))))))))) (.cond (.tmp 43) (.block 2 (.seq (.reg []
  [⟨some 50, .move (.tmp 7), none⟩,
  ⟨some 51, .binOp .leq 3 (.tmp 50) (.const (.int .i64 128)) 3, none⟩,
  ⟨some 52, .move (.tmp 51), none⟩,
  ⟨some 53, .move (.tmp 0), (some (52, true))⟩,
  ⟨some 54, .call { callee := .value (.func 50), args := #[.const (.string { data := #[32, 32, 32, 32, 32, 32, 32, 32, 32, 32, 32, 32, 32, 32, 32, 32, 32, 32, 32, 32, 32, 32, 32, 32, 32, 32, 32, 32, 32, 32, 32, 32, 32, 32, 32, 32, 32, 32, 32, 32, 32, 32, 32, 32, 32, 32, 32, 32, 32, 32, 32, 32, 32, 32, 32, 32, 32, 32, 32, 32, 32, 32, 32, 32, 32, 32, 32, 32, 32, 32, 32, 32, 32, 32, 32, 32, 32, 32, 32, 32, 32, 32, 32, 32, 32, 32, 32, 32, 32, 32, 32, 32, 32, 32, 32, 32, 32, 32, 32, 32, 32, 32, 32, 32, 32, 32, 32, 32, 32, 32, 32, 32, 32, 32, 32, 32, 32, 32, 32, 32, 32, 32, 32, 32, 32, 32, 32, 32] }), .tmp 53], argTypes := #[9, 9] }, (some (52, true))⟩,
  ⟨some 55, .pick (.tmp 52) (.tmp 54) (.const (.bool false)), none⟩,
  ⟨some 49, .assign (.tmp 55), none⟩]) (.cond (.tmp 49) (.seq (.reg []
  [⟨some 56, .move (.tmp 7), none⟩,
  ⟨some 57, .slice 9 (.const (.string { data := #[32, 32, 32, 32, 32, 32, 32, 32, 32, 32, 32, 32, 32, 32, 32, 32, 32, 32, 32, 32, 32, 32, 32, 32, 32, 32, 32, 32, 32, 32, 32, 32, 32, 32, 32, 32, 32, 32, 32, 32, 32, 32, 32, 32, 32, 32, 32, 32, 32, 32, 32, 32, 32, 32, 32, 32, 32, 32, 32, 32, 32, 32, 32, 32, 32, 32, 32, 32, 32, 32, 32, 32, 32, 32, 32, 32, 32, 32, 32, 32, 32, 32, 32, 32, 32, 32, 32, 32, 32, 32, 32, 32, 32, 32, 32, 32, 32, 32, 32, 32, 32, 32, 32, 32, 32, 32, 32, 32, 32, 32, 32, 32, 32, 32, 32, 32, 32, 32, 32, 32, 32, 32, 32, 32, 32, 32, 32, 32] })) none (some (.tmp 56)) none, none⟩,
  ⟨some 4, .assign (.tmp 57), none⟩]) (.ret)) (.seq (.reg []
  [⟨some 59, .move (.tmp 7), none⟩,
  ⟨some 60, .binOp .leq 3 (.tmp 59) (.const (.int .i64 128)) 3, none⟩,
  ⟨some 61, .move (.tmp 60), none⟩,
  ⟨some 62, .move (.tmp 0), (some (61, true))⟩,
  ⟨some 63, .call { callee := .value (.func 50), args := #[.const (.string { data := #[45, 45, 45, 45, 45, 45, 45, 45, 45, 45, 45, 45, 45, 45, 45, 45, 45, 45, 45, 45, 45, 45, 45, 45, 45, 45, 45, 45, 45, 45, 45, 45, 45, 45, 45, 45, 45, 45, 45, 45, 45, 45, 45, 45, 45, 45, 45, 45, 45, 45, 45, 45, 45, 45, 45, 45, 45, 45, 45, 45, 45, 45, 45, 45, 45, 45, 45, 45, 45, 45, 45, 45, 45, 45, 45, 45, 45, 45, 45, 45, 45, 45, 45, 45, 45, 45, 45, 45, 45, 45, 45, 45, 45, 45, 45, 45, 45, 45, 45, 45, 45, 45, 45, 45, 45, 45, 45, 45, 45, 45, 45, 45, 45, 45, 45, 45, 45, 45, 45, 45, 45, 45, 45, 45, 45, 45, 45, 45] }), .tmp 62], argTypes := #[9, 9] }, (some (61, true))⟩,
  ⟨some 64, .pick (.tmp 61) (.tmp 63) (.const (.bool false)), none⟩,
  ⟨some 58, .assign (.tmp 64), none⟩]) (.cond (.tmp 58) (.seq (.reg []
  [⟨some 65, .move (.tmp 7), none⟩,
  ⟨some 66, .slice 9 (.const (.string { data := #[45, 45, 45, 45, 45, 45, 45, 45, 45, 45, 45, 45, 45, 45, 45, 45, 45, 45, 45, 45, 45, 45, 45, 45, 45, 45, 45, 45, 45, 45, 45, 45, 45, 45, 45, 45, 45, 45, 45, 45, 45, 45, 45, 45, 45, 45, 45, 45, 45, 45, 45, 45, 45, 45, 45, 45, 45, 45, 45, 45, 45, 45, 45, 45, 45, 45, 45, 45, 45, 45, 45, 45, 45, 45, 45, 45, 45, 45, 45, 45, 45, 45, 45, 45, 45, 45, 45, 45, 45, 45, 45, 45, 45, 45, 45, 45, 45, 45, 45, 45, 45, 45, 45, 45, 45, 45, 45, 45, 45, 45, 45, 45, 45, 45, 45, 45, 45, 45, 45, 45, 45, 45, 45, 45, 45, 45, 45, 45] })) none (some (.tmp 65)) none, none⟩,
  ⟨some 4, .assign (.tmp 66), none⟩]) (.ret)) (.seq (.reg []
  [⟨some 68, .move (.tmp 7), none⟩,
  ⟨some 69, .binOp .leq 3 (.tmp 68) (.const (.int .i64 64)) 3, none⟩,
  ⟨some 70, .move (.tmp 69), none⟩,
  ⟨some 71, .move (.tmp 0), (some (70, true))⟩,
  ⟨some 72, .call { callee := .value (.func 50), args := #[.const (.string { data := #[48, 48, 48, 48, 48, 48, 48, 48, 48, 48, 48, 48, 48, 48, 48, 48, 48, 48, 48, 48, 48, 48, 48, 48, 48, 48, 48, 48, 48, 48, 48, 48, 48, 48, 48, 48, 48, 48, 48, 48, 48, 48, 48, 48, 48, 48, 48, 48, 48, 48, 48, 48, 48, 48, 48, 48, 48, 48, 48, 48, 48, 48, 48, 48] }), .tmp 71], argTypes := #[9, 9] }, (some (70, true))⟩,
  ⟨some 73, .pick (.tmp 70) (.tmp 72) (.const (.bool false)), none⟩,
  ⟨some 67, .assign (.tmp 73), none⟩]) (.cond (.tmp 67) (.seq (.reg []
  [⟨some 74, .move (.tmp 7), none⟩,
  ⟨some 75, .slice 9 (.const (.string { data := #[48, 48, 48, 48, 48, 48, 48, 48, 48, 48, 48, 48, 48, 48, 48, 48, 48, 48, 48, 48, 48, 48, 48, 48, 48, 48, 48, 48, 48, 48, 48, 48, 48, 48, 48, 48, 48, 48, 48, 48, 48, 48, 48, 48, 48, 48, 48, 48, 48, 48, 48, 48, 48, 48, 48, 48, 48, 48, 48, 48, 48, 48, 48, 48] })) none (some (.tmp 74)) none, none⟩,
  ⟨some 4, .assign (.tmp 75), none⟩]) (.ret)) (.seq (.reg []
  [⟨some 77, .move (.tmp 7), none⟩,
  ⟨some 78, .binOp .leq 3 (.tmp 77) (.const (.int .i64 128)) 3, none⟩,
  ⟨some 79, .move (.tmp 78), none⟩,
  ⟨some 80, .move (.tmp 0), (some (79, true))⟩,
  ⟨some 81, .call { callee := .value (.func 50), args := #[.const (.string { data := #[61, 61, 61, 61, 61, 61, 61, 61, 61, 61, 61, 61, 61, 61, 61, 61, 61, 61, 61, 61, 61, 61, 61, 61, 61, 61, 61, 61, 61, 61, 61, 61, 61, 61, 61, 61, 61, 61, 61, 61, 61, 61, 61, 61, 61, 61, 61, 61, 61, 61, 61, 61, 61, 61, 61, 61, 61, 61, 61, 61, 61, 61, 61, 61, 61, 61, 61, 61, 61, 61, 61, 61, 61, 61, 61, 61, 61, 61, 61, 61, 61, 61, 61, 61, 61, 61, 61, 61, 61, 61, 61, 61, 61, 61, 61, 61, 61, 61, 61, 61, 61, 61, 61, 61, 61, 61, 61, 61, 61, 61, 61, 61, 61, 61, 61, 61, 61, 61, 61, 61, 61, 61, 61, 61, 61, 61, 61, 61] }), .tmp 80], argTypes := #[9, 9] }, (some (79, true))⟩,
  ⟨some 82, .pick (.tmp 79) (.tmp 81) (.const (.bool false)), none⟩,
  ⟨some 76, .assign (.tmp 82), none⟩]) (.cond (.tmp 76) (.seq (.reg []
  [⟨some 83, .move (.tmp 7), none⟩,
  ⟨some 84, .slice 9 (.const (.string { data := #[61, 61, 61, 61, 61, 61, 61, 61, 61, 61, 61, 61, 61, 61, 61, 61, 61, 61, 61, 61, 61, 61, 61, 61, 61, 61, 61, 61, 61, 61, 61, 61, 61, 61, 61, 61, 61, 61, 61, 61, 61, 61, 61, 61, 61, 61, 61, 61, 61, 61, 61, 61, 61, 61, 61, 61, 61, 61, 61, 61, 61, 61, 61, 61, 61, 61, 61, 61, 61, 61, 61, 61, 61, 61, 61, 61, 61, 61, 61, 61, 61, 61, 61, 61, 61, 61, 61, 61, 61, 61, 61, 61, 61, 61, 61, 61, 61, 61, 61, 61, 61, 61, 61, 61, 61, 61, 61, 61, 61, 61, 61, 61, 61, 61, 61, 61, 61, 61, 61, 61, 61, 61, 61, 61, 61, 61, 61, 61] })) none (some (.tmp 83)) none, none⟩,
  ⟨some 4, .assign (.tmp 84), none⟩]) (.ret)) (.seq (.reg []
  [⟨some 86, .move (.tmp 7), none⟩,
  ⟨some 87, .binOp .leq 3 (.tmp 86) (.const (.int .i64 64)) 3, none⟩,
  ⟨some 88, .move (.tmp 87), none⟩,
  ⟨some 89, .move (.tmp 0), (some (88, true))⟩,
  ⟨some 90, .call { callee := .value (.func 50), args := #[.const (.string { data := #[9, 9, 9, 9, 9, 9, 9, 9, 9, 9, 9, 9, 9, 9, 9, 9, 9, 9, 9, 9, 9, 9, 9, 9, 9, 9, 9, 9, 9, 9, 9, 9, 9, 9, 9, 9, 9, 9, 9, 9, 9, 9, 9, 9, 9, 9, 9, 9, 9, 9, 9, 9, 9, 9, 9, 9, 9, 9, 9, 9, 9, 9, 9, 9] }), .tmp 89], argTypes := #[9, 9] }, (some (88, true))⟩,
  ⟨some 91, .pick (.tmp 88) (.tmp 90) (.const (.bool false)), none⟩,
  ⟨some 85, .assign (.tmp 91), none⟩]) (.cond (.tmp 85) (.seq (.reg []
  [⟨some 92, .move (.tmp 7), none⟩,
  ⟨some 93, .slice 9 (.const (.string { data := #[9, 9, 9, 9, 9, 9, 9, 9, 9, 9, 9, 9, 9, 9, 9, 9, 9, 9, 9, 9, 9, 9, 9, 9, 9, 9, 9, 9, 9, 9, 9, 9, 9, 9, 9, 9, 9, 9, 9, 9, 9, 9, 9, 9, 9, 9, 9, 9, 9, 9, 9, 9, 9, 9, 9, 9, 9, 9, 9, 9, 9, 9, 9, 9] })) none (some (.tmp 92)) none, none⟩,
  ⟨some 4, .assign (.tmp 93), none⟩]) (.ret)) (.skip)))))))))))) (.skip))))) (.seq (.reg []
  [⟨some 94, .move (.tmp 7), none⟩,
  ⟨some 8, .assign (.tmp 94), none⟩]) (.seq (.seq (.reg []
  [⟨some 95, .move (.tmp 7), none⟩,
  ⟨some 96, .binOp .gtr 3 (.tmp 95) (.const (.int .i64 8192)) 3, none⟩]) (.cond (.tmp 96) (.seq (.reg []
  [⟨some 97, .move (.tmp 0), none⟩,
  ⟨some 98, .call { callee := .builtin .len, args := #[.tmp 97], argTypes := #[9] }, none⟩,
  ⟨some 99, .binOp .quo 3 (.const (.int .i64 8192)) (.tmp 98) 3, none⟩,
  ⟨some 100, .move (.tmp 0), none⟩,
  ⟨some 101, .call { callee := .builtin .len, args := #[.tmp 100], argTypes := #[9] }, none⟩,
  ⟨some 102, .binOp .mul 3 (.tmp 99) (.tmp 101) 3, none⟩,
  ⟨some 8, .assign (.tmp 102), none⟩]) (.seq (.reg []
  [⟨some 103, .move (.tmp 8), none⟩,
  ⟨some 104, .binOp .eql 3 (.tmp 103) (.const (.int .i64 0)) 3, none⟩]) (.cond (.tmp 104) (.reg []
  [⟨some 105, .move (.tmp 0), none⟩,
  ⟨some 106, .call { callee := .builtin .len, args := #[.tmp 105], argTypes := #[9] }, none⟩,
  ⟨some 8, .assign (.tmp 106), none⟩]) (.skip)))) (.skip))) (.seq (.reg []
  [⟨some 9, .alloc 63, none⟩]) (.seq (.reg []
  [⟨some 107, .move (.tmp 7), none⟩,
  ⟨some 108, .call { callee := .value (.func 51), args := #[.tmp 9, .tmp 107], argTypes := #[63, 3] }, none⟩]) (.seq (.reg []
  [⟨some 109, .move (.tmp 0), none⟩,
  ⟨some 110, .call { callee := .value (.func 20), args := #[.tmp 9, .tmp 109], argTypes := #[63, 9] }, none⟩]) (.seq (.block 3 (.loop (.seq (.seq (.reg []
  [⟨some 111, .call { callee := .value (.func 52), args := #[.tmp 9], argTypes := #[63] }, none⟩,
  ⟨some 112, .move (.tmp 7), none⟩,
  ⟨some 113, .binOp .lss 3 (.tmp 111) (.tmp 112) 3, none⟩]) (.cond (.tmp 113) (.skip) (.exit 3))) (.block 4 (.seq (.reg []
  [⟨some 114, .move (.tmp 7), none⟩,
  ⟨some 115, .call { callee := .value (.func 52), args := #[.tmp 9], argTypes := #[63] }, none⟩,
  ⟨some 116, .binOp .sub 3 (.tmp 114) (.tmp 115) 3, none⟩,
  ⟨some 117, .call { callee := .value (.func 52), args := #[.tmp 9], argTypes := #[63] }, none⟩,
  ⟨some 118, .move (.tmp 8), none⟩,
  ⟨some 119, .call { callee := .builtin .min, args := #[.tmp 116, .tmp 117, .tmp 118], argTypes := #[3, 3, 3] }, none⟩,
  ⟨some 10, .assign (.tmp 119), none⟩]) (.reg []
  [⟨some 120, .call { callee := .value (.func 22), args := #[.tmp 9], argTypes := #[63] }, none⟩,
  ⟨some 121, .move (.tmp 10), none⟩,
  ⟨some 122, .slice 9 (.tmp 120) none (some (.tmp 121)) none, none⟩,
  ⟨some 123, .call { callee := .value (.func 20), args := #[.tmp 9, .tmp 122], argTypes := #[63, 9] }, none⟩])))))) (.seq (.reg []
  [⟨some 124, .call { callee := .value (.func 22), args := #[.tmp 9], argTypes := #[63] }, none⟩,
  ⟨some 4, .assign (.tmp 124), none⟩]) (.ret)))))))))))))))
def ms37_0 : List Nat := [0, 1, 2, 3, 5, 6, 10, 11, 12, 13, 14, 15, 16, 17, 18, 19, 20, 21, 22, 23, 24, 25, 26, 27, 28, 29, 30, 31, 32, 33, 34, 35, 36, 37, 38, 39, 40, 41, 42, 43, 44, 45, 46, 47, 48, 49, 50, 51, 52, 53, 54, 55, 56, 57, 58, 59, 60, 61, 62, 63, 64, 65, 66, 67, 68, 69, 70, 71, 72, 73, 74, 75, 76, 77, 78, 79, 80, 81, 82, 83, 84, 85, 86, 87, 88, 89, 90, 91, 92, 93, 94, 95, 96, 97, 98, 99, 100, 101, 102, 103, 104, 105, 106, 107, 108, 109, 110, 111, 112, 113, 114, 115, 116, 117, 118, 119, 120, 121, 122, 123]
theorem ls37 : Tryd.f37.body.map (strip Tryd.prog impCodA) = some lc37 := by kernel_rfl
theorem lcall37 {args : List AV} (hargs : args.length ≤ 125) {H0 : AHeap} (lo : Nat) (hlo : H0.length ≤ lo) {r0 : AV} {H0' : AHeap}
    (h : lavc Tryd.prog glob lc37 (args ++ List.replicate (125 - args.length) (.v undef)) H0 fun e t H => (e = .normal ∨ e = .ret) ∧ aret Tryd.prog t H [Go.ResultVar.tmp 4] fun r => Fin lo H r r0 H0') :
    ACall Tryd.prog glob (H0.length == 0) 37 args H0 r0 H0' := LCall' ctx Tryd.func37 (by kernel_rfl) ls37 (by kernel_rfl) (by kernel_rfl) hargs lo hlo h
/-- escutcheon/escutcheonref21.year -/
def lc42 : LCode := .seq (.reg []
  [⟨some 2, .assign (.const (.int .i64 0)), none⟩]) (.seq (.reg []
  [⟨some 3, .assign (.const (.int .i64 0)), none⟩]) (.seq (.seq (.reg []
  [⟨some 4, .assign (.const (.int .i64 1)), none⟩]) (.block 0 (.loop (.seq (.seq (.reg []
  [⟨some 5, .move (.tmp 4), none⟩,
  ⟨some 6, .binOp .leq 3 (.tmp 5) (.const (.int .i64 12)) 3, none⟩]) (.cond (.tmp 6) (.skip) (.exit 0))) (.seq (.block 1 (.reg []
  [⟨some 9, .move (.tmp 3), none⟩,
  ⟨some 10, .move (.tmp 0), none⟩,
  ⟨some 11, .move (.tmp 4), none⟩,
  ⟨some 12, .call { callee := .value (.func 43), args := #[.tmp 10, .tmp 11], argTypes := #[3, 3] }, none⟩,
  ⟨some 13, .binOp .add 3 (.tmp 9) (.tmp 12) 3, none⟩,
  ⟨some 3, .assign (.tmp 13), none⟩])) (.reg []
  [⟨some 7, .move (.tmp 4), none⟩,
  ⟨some 8, .binOp .add 3 (.tmp 7) (.const (.int .i64 1)) 3, none⟩,
  ⟨some 4, .assign (.tmp 8), none⟩])))))) (.seq (.reg []
  [⟨some 14, .move (.tmp 3), none⟩,
  ⟨some 2, .assign (.tmp 14), none⟩]) (.ret))))
def ms42_0 : List Nat := [1, 3, 4, 5, 6, 7, 8, 9, 10, 11, 12, 13]
theorem ls42 : Tryd.f42.body.map (strip Tryd.prog impCodA) = some lc42 := by kernel_rfl
theorem lcall42 {args : List AV} (hargs : args.length ≤ 15) {H0 : AHeap} (lo : Nat) (hlo : H0.length ≤ lo) {r0 : AV} {H0' : AHeap}
    (h : lavc Tryd.prog glob lc42 (args ++ List.replicate (15 - args.length) (.v undef)) H0 fun e t H => (e = .normal ∨ e = .ret) ∧ aret Tryd.prog t H [Go.ResultVar.tmp 2] fun r => Fin lo H r r0 H0') :
    ACall Tryd.prog glob (H0.length == 0) 42 args H0 r0 H0' := LCall' ctx Tryd.func42 (by kernel_rfl) ls42 (by kernel_rfl) (by kernel_rfl) hargs lo hlo h
/-- escutcheon/escutcheonref21.Days -/
def lc43 : LCode := .seq (.reg []
  [⟨some 4, .assign (.const (.int .i64 0)), none⟩]) (.seq (.seq (.reg []
  [⟨some 5, .move (.tmp 0), none⟩,
  ⟨some 6, .binOp .lss 3 (.tmp 5) (.const (.int .i64 0)) 3, none⟩,
  ⟨some 7, .move (.tmp 6), none⟩,
  ⟨some 8, .move (.tmp 0), (some (7, false))⟩,
  ⟨some 9, .binOp .gtr 3 (.tmp 8) (.const (.int .i64 9999)) 3, (some (7, false))⟩,
  ⟨some 10, .pick (.tmp 7) (.const (.bool true)) (.tmp 9), none⟩,
  ⟨some 11, .move (.tmp 10), none⟩,
  ⟨some 12, .move (.tmp 1), (some (11, false))⟩,
  ⟨some 13, .binOp .lss 3 (.tmp 12) (.const (.int .i64 1)) 3, (some (11, false))⟩,
  ⟨some 14, .pick (.tmp 11) (.const (.bool true)) (.tmp 13), none⟩,
  ⟨some 15, .move (.tmp 14), none⟩,
  ⟨some 16, .move (.tmp 1), (some (15, false))⟩,
  ⟨some 17, .binOp .gtr 3 (.tmp 16) (.const (.int .i64 12)) 3, (some (15, false))⟩,
  ⟨some 18, .pick (.tmp 15) (.const (.bool true)) (.tmp 17), none⟩]) (.cond (.tmp 18) (.seq (.reg []
  [⟨some 4, .assign (.const (.int .i64 0)), none⟩]) (.ret)) (.skip))) (.seq (.seq (.reg []
  [⟨some 19, .move (.tmp 1), none⟩,
  ⟨some 20, .binOp .eql 3 (.tmp 19) (.const (.int .i64 2)) 3, none⟩]) (.cond (.tmp 20) (.seq (.seq (.reg []
  [⟨some 21, .move (.tmp 0), none⟩,
  ⟨some 22, .binOp .rem 3 (.tmp 21) (.const (.int .i64 400)) 3, none⟩,
  ⟨some 23, .binOp .eql 3 (.tmp 22) (.const (.int .i64 0)) 3, none⟩,
  ⟨some 24, .move (.tmp 23), none⟩,
  ⟨some 25, .move (.tmp 0), (some (24, false))⟩,
  ⟨some 26, .binOp .rem 3 (.tmp 25) (.const (.int .i64 4)) 3, (some (24, false))⟩,
  ⟨some 27, .binOp .eql 3 (.tmp 26) (.const (.int .i64 0)) 3, (some (24, false))⟩,
  ⟨some 28, .move (.tmp 27), (some (24, false))⟩,
  ⟨some 29, .move (.tmp 0), (some (28, true))⟩,
  ⟨some 30, .binOp .rem 3 (.tmp 29) (.const (.int .i64 100)) 3, (some (28, true))⟩,
  ⟨some 31, .binOp .neq 3 (.tmp 30) (.const (.int .i64 0)) 3, (some (28, true))⟩,
  ⟨some 32, .pick (.tmp 28) (.tmp 31) (.const (.bool false)), (some (24, false))⟩,
  ⟨some 33, .pick (.tmp 24) (.const (.bool true)) (.tmp 32), none⟩]) (.cond (.tmp 33) (.seq (.reg []
  [⟨some 4, .assign (.const (.int .i64 29)), none⟩]) (.ret)) (.skip))) (.seq (.reg []
  [⟨some 4, .assign (.const (.int .i64 28)), none⟩]) (.ret))) (.skip))) (.seq (.seq (.reg []
  [⟨some 34, .move (.tmp 1), none⟩,
  ⟨some 35, .binOp .eql 3 (.tmp 34) (.const (.int .i64 4)) 3, none⟩,
  ⟨some 36, .move (.tmp 35), none⟩,
  ⟨some 37, .move (.tmp 1), (some (36, false))⟩,
  ⟨some 38, .binOp .eql 3 (.tmp 37) (.const (.int .i64 6)) 3, (some (36, false))⟩,
  ⟨some 39, .pick (.tmp 36) (.const (.bool true)) (.tmp 38), none⟩,
  ⟨some 40, .move (.tmp 39), none⟩,
  ⟨some 41, .move (.tmp 1), (some (40, false))⟩,
  ⟨some 42, .binOp .eql 3 (.tmp 41) (.const (.int .i64 9)) 3, (some (40, false))⟩,
  ⟨some 43, .pick (.tmp 40) (.const (.bool true)) (.tmp 42), none⟩,
  ⟨some 44, .move (.tmp 43), none⟩,
  ⟨some 45, .move (.tmp 1), (some (44, false))⟩,
  ⟨some 46, .binOp .eql 3 (.tmp 45) (.const (.int .i64 11)) 3, (some (44, false))⟩,
  ⟨some 47, .pick (.tmp 44) (.const (.bool true)) (.tmp 46), none⟩]) (.cond (.tmp 47) (.seq (.reg []
  [⟨some 4, .assign (.const (.int .i64 30)), none⟩]) (.ret)) (.skip))) (.seq (.reg []
  [⟨some 4, .assign (.const (.int .i64 31)), none⟩]) (.ret)))))
theorem ls43 : Tryd.f43.body.map (strip Tryd.prog impCodA) = some lc43 := by kernel_rfl
theorem lcall43 {args : List AV} (hargs : args.length ≤ 48) {H0 : AHeap} (lo : Nat) (hlo : H0.length ≤ lo) {r0 : AV} {H0' : AHeap}
    (h : lavc Tryd.prog glob lc43 (args ++ List.replicate (48 - args.length) (.v undef)) H0 fun e t H => (e = .normal ∨ e = .ret) ∧ aret Tryd.prog t H [Go.ResultVar.tmp 4] fun r => Fin lo H r r0 H0') :
    ACall Tryd.prog glob (H0.length == 0) 43 args H0 r0 H0' := LCall' ctx Tryd.func43 (by kernel_rfl) ls43 (by kernel_rfl) (by kernel_rfl) hargs lo hlo h
/-- escutcheon/hour.Read -/
def lc45 : LCode := .seq (.reg []
  [⟨some 2, .assign (.const (.int .i64 0)), none⟩,
  ⟨some 3, .assign (.const (.int .i64 0)), none⟩]) (.seq (.reg [⟨some 10, .move (.tmp 0), none⟩,
  ⟨some 11, .move (.tmp 0), none⟩,
  ⟨some 12, .call { callee := .builtin .len, args := #[.tmp 11], argTypes := #[9] }, none⟩,
  ⟨some 13, .call { callee := .builtin .min, args := #[.tmp 12, .const (.int .i64 19)], argTypes := #[3, 3] }, none⟩,
  ⟨some 14, .slice 9 (.tmp 10) none (some (.tmp 13)) none, none⟩,
  ⟨some 15, .move (.tmp 0), none⟩,
  ⟨some 16, .move (.tmp 0), none⟩,
  ⟨some 17, .call { callee := .builtin .len, args := #[.tmp 16], argTypes := #[9] }, none⟩,
  ⟨some 18, .call { callee := .builtin .min, args := #[.tmp 17, .const (.int .i64 19)], argTypes := #[3, 3] }, none⟩,
  ⟨some 19, .slice 9 (.tmp 15) (some (.tmp 18)) none none, none⟩,
  ⟨some 4, .assign (.tmp 14), none⟩,
  ⟨some 5, .assign (.tmp 19), none⟩]
  []) (.seq (.seq (.reg []
  [⟨some 20, .move (.tmp 4), none⟩,
  ⟨some 21, .call { callee := .value (.func 59), args := #[.tmp 20, .const (.string { data := #[100, 100, 100, 100, 45, 100, 100, 45, 100, 100, 84, 100, 100, 58, 100, 100, 58, 100, 100] })], argTypes := #[9, 9] }, none⟩,
  ⟨some 22, .unOp .not 4 (.tmp 21), none⟩,
  ⟨some 23, .move (.tmp 22), none⟩,
  ⟨some 24, .move (.tmp 5), (some (23, false))⟩,
  ⟨some 25, .binOp .neq 9 (.tmp 24) (.const (.string { data := #[90] })) 9, (some (23, false))⟩,
  ⟨some 26, .move (.tmp 25), (some (23, false))⟩,
  ⟨some 27, .move (.tmp 5), (some (26, true))⟩,
  ⟨some 28, .call { callee := .value (.func 59), args := #[.tmp 27, .const (.string { data := #[43, 100, 100, 58, 100, 100] })], argTypes := #[9, 9] }, (some (26, true))⟩,
  ⟨some 29, .unOp .not 4 (.tmp 28), (some (26, true))⟩,
  ⟨some 30, .pick (.tmp 26) (.tmp 29) (.const (.bool false)), (some (23, false))⟩,
  ⟨some 31, .move (.tmp 30), (some (23, false))⟩,
  ⟨some 32, .move (.tmp 5), (some (31, true))⟩,
  ⟨some 33, .call { callee := .value (.func 59), args := #[.tmp 32, .const (.string { data := #[45, 100, 100, 58, 100, 100] })], argTypes := #[9, 9] }, (some (31, true))⟩,
  ⟨some 34, .unOp .not 4 (.tmp 33), (some (31, true))⟩,
  ⟨some 35, .pick (.tmp 31) (.tmp 34) (.const (.bool false)), (some (23, false))⟩,
  ⟨some 36, .pick (.tmp 23) (.const (.bool true)) (.tmp 35), none⟩]) (.cond (.tmp 36) (.seq (.reg []
  [⟨some 2, .assign (.const (.int .i64 0)), none⟩,
  ⟨some 3, .assign (.const (.int .i64 2)), none⟩]) (.ret)) (.skip))) (.seq (.reg [⟨some 37, .move (.tmp 0), none⟩,
  ⟨some 38, .slice 9 (.tmp 37) none (some (.const (.int .i64 4))) none, none⟩,
  ⟨some 39, .call { callee := .value (.func 60), args := #[.tmp 38], argTypes := #[9] }, none⟩,
  ⟨some 40, .move (.tmp 0), none⟩,
  ⟨some 41, .slice 9 (.tmp 40) (some (.const (.int .i64 5))) (some (.const (.int .i64 7))) none, none⟩,
  ⟨some 42, .call { callee := .value (.func 60), args := #[.tmp 41], argTypes := #[9] }, none⟩,
  ⟨some 43, .move (.tmp 0), none⟩,
  ⟨some 44, .slice 9 (.tmp 43) (some (.const (.int .i64 8))) (some (.const (.int .i64 10))) none, none⟩,
  ⟨some 45, .call { callee := .value (.func 60), args := #[.tmp 44], argTypes := #[9] }, none⟩,
  ⟨some 46, .build 56 #[(0, .tmp 39), (1, .tmp 42), (2, .tmp 45)], none⟩,
  ⟨some 47, .move (.tmp 0), none⟩,
  ⟨some 48, .slice 9 (.tmp 47) (some (.const (.int .i64 11))) (some (.const (.int .i64 13))) none, none⟩,
  ⟨some 49, .call { callee := .value (.func 60), args := #[.tmp 48], argTypes := #[9] }, none⟩,
  ⟨some 50, .move (.tmp 0), none⟩,
  ⟨some 51, .slice 9 (.tmp 50) (some (.const (.int .i64 14))) (some (.const (.int .i64 16))) none, none⟩,
  ⟨some 52, .call { callee := .value (.func 60), args := #[.tmp 51], argTypes := #[9] }, none⟩,
  ⟨some 53, .move (.tmp 0), none⟩,
  ⟨some 54, .slice 9 (.tmp 53) (some (.const (.int .i64 17))) (some (.const (.int .i64 19))) none, none⟩,
  ⟨some 55, .call { callee := .value (.func 60), args := #[.tmp 54], argTypes := #[9] }, none⟩,
  ⟨some 56, .build 58 #[(0, .tmp 46), (1, .tmp 49), (2, .tmp 52), (3, .tmp 55)], none⟩,
  ⟨some 6, .alloc 58, none⟩]
  [⟨none, .store 58 (.tmp 6) (.tmp 56), none⟩]) (.seq (.reg []
  [⟨some 7, .assign (.const (.int .i64 0)), none⟩]) (.seq (.seq (.reg []
  [⟨some 57, .move (.tmp 5), none⟩,
  ⟨some 58, .binOp .neq 9 (.tmp 57) (.const (.string { data := #[90] })) 9, none⟩]) (.cond (.tmp 58) (.seq (.reg [⟨some 59, .move (.tmp 5), none⟩,
  ⟨some 60, .slice 9 (.tmp 59) (some (.const (.int .i64 1))) (some (.const (.int .i64 3))) none, none⟩,
  ⟨some 61, .call { callee := .value (.func 60), args := #[.tmp 60], argTypes := #[9] }, none⟩,
  ⟨some 62, .move (.tmp 5), none⟩,
  ⟨some 63, .slice 9 (.tmp 62) (some (.const (.int .i64 4))) none none, none⟩,
  ⟨some 64, .call { callee := .value (.func 60), args := #[.tmp 63], argTypes := #[9] }, none⟩,
  ⟨some 8, .assign (.tmp 61), none⟩,
  ⟨some 9, .assign (.tmp 64), none⟩]
  []) (.seq (.seq (.reg []
  [⟨some 65, .move (.tmp 8), none⟩,
  ⟨some 66, .binOp .gtr 3 (.tmp 65) (.const (.int .i64 23)) 3, none⟩,
  ⟨some 67, .move (.tmp 66), none⟩,
  ⟨some 68, .move (.tmp 9), (some (67, false))⟩,
  ⟨some 69, .binOp .gtr 3 (.tmp 68) (.const (.int .i64 59)) 3, (some (67, false))⟩,
  ⟨some 70, .pick (.tmp 67) (.const (.bool true)) (.tmp 69), none⟩]) (.cond (.tmp 70) (.seq (.reg []
  [⟨some 2, .assign (.const (.int .i64 0)), none⟩,
  ⟨some 3, .assign (.const (.int .i64 12)), none⟩]) (.ret)) (.skip))) (.reg []
  [⟨some 71, .move (.tmp 8), none⟩,
  ⟨some 72, .binOp .mul 3 (.tmp 71) (.const (.int .i64 3600)) 3, none⟩,
  ⟨some 73, .move (.tmp 9), none⟩,
  ⟨some 74, .binOp .mul 3 (.tmp 73) (.const (.int .i64 60)) 3, none⟩,
  ⟨some 75, .binOp .add 3 (.tmp 72) (.tmp 74) 3, none⟩,
  ⟨some 7, .assign (.tmp 75), none⟩]))) (.skip))) (.seq (.seq (.reg []
  [⟨some 76, .move (.tmp 5), none⟩,
  ⟨some 77, .index 9 (.tmp 76) (.const (.int .i64 0)), none⟩,
  ⟨some 78, .binOp .eql 5 (.tmp 77) (.const (.int .u8 43)) 5, none⟩]) (.cond (.tmp 78) (.reg []
  [⟨some 79, .move (.tmp 7), none⟩,
  ⟨some 80, .unOp .neg 3 (.tmp 79), none⟩,
  ⟨some 7, .assign (.tmp 80), none⟩]) (.skip))) (.seq (.seq (.reg []
  [⟨some 81, .load 58 (.tmp 6), none⟩,
  ⟨some 82, .call { callee := .value (.func 61), args := #[.tmp 81], argTypes := #[58] }, none⟩,
  ⟨some 83, .unOp .not 4 (.tmp 82), none⟩,
  ⟨some 84, .move (.tmp 83), none⟩,
  ⟨some 85, .load 58 (.tmp 6), (some (84, false))⟩,
  ⟨some 86, .call { callee := .value (.func 62), args := #[.tmp 85], argTypes := #[58] }, (some (84, false))⟩,
  ⟨some 87, .move (.tmp 7), (some (84, false))⟩,
  ⟨some 88, .binOp .add 3 (.tmp 86) (.tmp 87) 3, (some (84, false))⟩,
  ⟨some 89, .call { callee := .value (.func 18), args := #[.tmp 88], argTypes := #[3] }, (some (84, false))⟩,
  ⟨some 90, .unOp .not 4 (.tmp 89), (some (84, false))⟩,
  ⟨some 91, .pick (.tmp 84) (.const (.bool true)) (.tmp 90), none⟩]) (.cond (.tmp 91) (.seq (.reg []
  [⟨some 2, .assign (.const (.int .i64 0)), none⟩,
  ⟨some 3, .assign (.const (.int .i64 12)), none⟩]) (.ret)) (.skip))) (.seq (.reg []
  [⟨some 92, .load 58 (.tmp 6), none⟩,
  ⟨some 93, .call { callee := .value (.func 62), args := #[.tmp 92], argTypes := #[58] }, none⟩,
  ⟨some 94, .move (.tmp 7), none⟩,
  ⟨some 95, .binOp .add 3 (.tmp 93) (.tmp 94) 3, none⟩,
  ⟨some 2, .assign (.tmp 95), none⟩,
  ⟨some 3, .assign (.const (.int .i64 0)), none⟩]) (.ret)))))))))
theorem ls45 : Tryd.f45.body.map (strip Tryd.prog impCodA) = some lc45 := by kernel_rfl
theorem lcall45 {args : List AV} (hargs : args.length ≤ 96) {H0 : AHeap} (lo : Nat) (hlo : H0.length ≤ lo) {r0 : AV} {H0' : AHeap}
    (h : lavc Tryd.prog glob lc45 (args ++ List.replicate (96 - args.length) (.v undef)) H0 fun e t H => (e = .normal ∨ e = .ret) ∧ aret Tryd.prog t H [Go.ResultVar.tmp 2, Go.ResultVar.tmp 3] fun r => Fin lo H r r0 H0') :
    ACall Tryd.prog glob (H0.length == 0) 45 args H0 r0 H0' := LCall' ctx Tryd.func45 (by kernel_rfl) ls45 (by kernel_rfl) (by kernel_rfl) hargs lo hlo h
/-- escutcheon/hour.leap -/
def lc46 : LCode := .seq (.reg []
  [⟨some 2, .assign (.const (.bool false)), none⟩]) (.seq (.reg []
  [⟨some 3, .move (.tmp 0), none⟩,
  ⟨some 4, .binOp .rem 3 (.tmp 3) (.const (.int .i64 4)) 3, none⟩,
  ⟨some 5, .binOp .eql 3 (.tmp 4) (.const (.int .i64 0)) 3, none⟩,
  ⟨some 6, .move (.tmp 5), none⟩,
  ⟨some 7, .move (.tmp 0), (some (6, true))⟩,
  ⟨some 8, .binOp .rem 3 (.tmp 7) (.const (.int .i64 100)) 3, (some (6, true))⟩,
  ⟨some 9, .binOp .neq 3 (.tmp 8) (.const (.int .i64 0)) 3, (some (6, true))⟩,
  ⟨some 10, .move (.tmp 9), (some (6, true))⟩,
  ⟨some 11, .move (.tmp 0), (some (10, false))⟩,
  ⟨some 12, .binOp .rem 3 (.tmp 11) (.const (.int .i64 400)) 3, (some (10, false))⟩,
  ⟨some 13, .binOp .eql 3 (.tmp 12) (.const (.int .i64 0)) 3, (some (10, false))⟩,
  ⟨some 14, .pick (.tmp 10) (.const (.bool true)) (.tmp 13), (some (6, true))⟩,
  ⟨some 15, .pick (.tmp 6) (.tmp 14) (.const (.bool false)), none⟩,
  ⟨some 2, .assign (.tmp 15), none⟩]) (.ret))
theorem ls46 : Tryd.f46.body.map (strip Tryd.prog impCodA) = some lc46 := by kernel_rfl
theorem lcall46 {args : List AV} (hargs : args.length ≤ 16) {H0 : AHeap} (lo : Nat) (hlo : H0.length ≤ lo) {r0 : AV} {H0' : AHeap}
    (h : lavc Tryd.prog glob lc46 (args ++ List.replicate (16 - args.length) (.v undef)) H0 fun e t H => (e = .normal ∨ e = .ret) ∧ aret Tryd.prog t H [Go.ResultVar.tmp 2] fun r => Fin lo H r r0 H0') :
    ACall Tryd.prog glob (H0.length == 0) 46 args H0 r0 H0' := LCall' ctx Tryd.func46 (by kernel_rfl) ls46 (by kernel_rfl) (by kernel_rfl) hargs lo hlo h
/-- internal/strconv.Itoa -/
def lc48 : LCode := .seq (.reg []
  [⟨some 2, .assign (.const (.string { data := #[] })), none⟩]) (.seq (.reg []
  [⟨some 3, .move (.tmp 0), none⟩,
  ⟨some 4, .call { callee := .value (.func 63), args := #[.tmp 3, .const (.int .i64 10)], argTypes := #[2, 3] }, none⟩,
  ⟨some 2, .assign (.tmp 4), none⟩]) (.ret))
theorem ls48 : Tryd.f48.body.map (strip Tryd.prog impCodA) = some lc48 := by kernel_rfl
theorem lcall48 {args : List AV} (hargs : args.length ≤ 5) {H0 : AHeap} (lo : Nat) (hlo : H0.length ≤ lo) {r0 : AV} {H0' : AHeap}
    (h : lavc Tryd.prog glob lc48 (args ++ List.replicate (5 - args.length) (.v undef)) H0 fun e t H => (e = .normal ∨ e = .ret) ∧ aret Tryd.prog t H [Go.ResultVar.tmp 2] fun r => Fin lo H r r0 H0') :
    ACall Tryd.prog glob (H0.length == 0) 48 args H0 r0 H0' := LCall' ctx Tryd.func48 (by kernel_rfl) ls48 (by kernel_rfl) (by kernel_rfl) hargs lo hlo h
/-- math/bits.Mul -/
def lc49 : LCode := .seq (.reg []
  [⟨some 4, .assign (.const (.int .u64 0)), none⟩,
  ⟨some 5, .assign (.const (.int .u64 0)), none⟩]) (.seq (.cond (.const (.bool false)) (.seq (.reg []
  [⟨some 11, .move (.tmp 0), none⟩,
  ⟨some 12, .convert 97 108 (.tmp 11), none⟩,
  ⟨some 13, .move (.tmp 1), none⟩,
  ⟨some 14, .convert 97 108 (.tmp 13), none⟩,
  ⟨some 15, .call { callee := .value (.func 64), args := #[.tmp 12, .tmp 14], argTypes := #[108, 108] }, none⟩,
  ⟨some 10, .move (.tmp 15), none⟩,
  ⟨some 16, .extract (.tmp 10) 0, none⟩,
  ⟨some 17, .extract (.tmp 10) 1, none⟩,
  ⟨some 6, .assign (.tmp 16), none⟩,
  ⟨some 7, .assign (.tmp 17), none⟩]) (.seq (.reg []
  [⟨some 18, .move (.tmp 6), none⟩,
  ⟨some 19, .convert 108 97 (.tmp 18), none⟩,
  ⟨some 20, .move (.tmp 7), none⟩,
  ⟨some 21, .convert 108 97 (.tmp 20), none⟩,
  ⟨some 4, .assign (.tmp 19), none⟩,
  ⟨some 5, .assign (.tmp 21), none⟩]) (.ret))) (.skip)) (.seq (.reg []
  [⟨some 23, .move (.tmp 0), none⟩,
  ⟨some 24, .move (.tmp 1), none⟩,
  ⟨some 25, .call { callee := .value (.func 65), args := #[.tmp 23, .tmp 24], argTypes := #[111, 111] }, none⟩,
  ⟨some 22, .move (.tmp 25), none⟩,
  ⟨some 26, .extract (.tmp 22) 0, none⟩,
  ⟨some 27, .extract (.tmp 22) 1, none⟩,
  ⟨some 8, .assign (.tmp 26), none⟩,
  ⟨some 9, .assign (.tmp 27), none⟩]) (.seq (.reg []
  [⟨some 28, .move (.tmp 8), none⟩,
  ⟨some 29, .move (.tmp 9), none⟩,
  ⟨some 4, .assign (.tmp 28), none⟩,
  ⟨some 5, .assign (.tmp 29), none⟩]) (.ret))))
theorem ls49 : Tryd.f49.body.map (strip Tryd.prog impCodA) = some lc49 := by kernel_rfl
theorem lcall49 {args : List AV} (hargs : args.length ≤ 30) {H0 : AHeap} (lo : Nat) (hlo : H0.length ≤ lo) {r0 : AV} {H0' : AHeap}
    (h : lavc Tryd.prog glob lc49 (args ++ List.replicate (30 - args.length) (.v undef)) H0 fun e t H => (e = .normal ∨ e = .ret) ∧ aret Tryd.prog t H [Go.ResultVar.tmp 4, Go.ResultVar.tmp 5] fun r => Fin lo H r r0 H0') :
    ACall Tryd.prog glob (H0.length == 0) 49 args H0 r0 H0' := LCall' ctx Tryd.func49 (by kernel_rfl) ls49 (by kernel_rfl) (by kernel_rfl) hargs lo hlo h
/-- strings.HasPrefix -/
def lc50 : LCode := .seq (.reg []
  [⟨some 4, .assign (.const (.bool false)), none⟩]) (.seq (.reg []
  [⟨some 5, .move (.tmp 0), none⟩,
  ⟨some 6, .move (.tmp 1), none⟩,
  ⟨some 7, .call { callee := .value (.func 66), args := #[.tmp 5, .tmp 6], argTypes := #[9, 9] }, none⟩,
  ⟨some 4, .assign (.tmp 7), none⟩]) (.ret))
theorem ls50 : Tryd.f50.body.map (strip Tryd.prog impCodA) = some lc50 := by kernel_rfl
theorem lcall50 {args : List AV} (hargs : args.length ≤ 8) {H0 : AHeap} (lo : Nat) (hlo : H0.length ≤ lo) {r0 : AV} {H0' : AHeap}
    (h : lavc Tryd.prog glob lc50 (args ++ List.replicate (8 - args.length) (.v undef)) H0 fun e t H => (e = .normal ∨ e = .ret) ∧ aret Tryd.prog t H [Go.ResultVar.tmp 4] fun r => Fin lo H r r0 H0') :
    ACall Tryd.prog glob (H0.length == 0) 50 args H0 r0 H0' := LCall' ctx Tryd.func50 (by kernel_rfl) ls50 (by kernel_rfl) (by kernel_rfl) hargs lo hlo h
/-- (*strings.Builder).Len -/
def lc52 : LCode := .seq (.reg []
  [⟨some 2, .assign (.const (.int .i64 0)), none⟩]) (.seq (.reg []
  [⟨some 3, .move (.tmp 0), none⟩,
  ⟨some 4, .nilCheck (.tmp 3), none⟩,
  ⟨some 5, .fieldAddr 63 (.tmp 4) 1, none⟩,
  ⟨some 6, .load 61 (.tmp 5), none⟩,
  ⟨some 7, .call { callee := .builtin .len, args := #[.tmp 6], argTypes := #[61] }, none⟩,
  ⟨some 2, .assign (.tmp 7), none⟩]) (.ret))
theorem ls52 : Tryd.f52.body.map (strip Tryd.prog impCodA) = some lc52 := by kernel_rfl
theorem lcall52 {args : List AV} (hargs : args.length ≤ 8) {H0 : AHeap} (lo : Nat) (hlo : H0.length ≤ lo) {r0 : AV} {H0' : AHeap}
    (h : lavc Tryd.prog glob lc52 (args ++ List.replicate (8 - args.length) (.v undef)) H0 fun e t H => (e = .normal ∨ e = .ret) ∧ aret Tryd.prog t H [Go.ResultVar.tmp 2] fun r => Fin lo H r r0 H0') :
    ACall Tryd.prog glob (H0.length == 0) 52 args H0 r0 H0' := LCall' ctx Tryd.func52 (by kernel_rfl) ls52 (by kernel_rfl) (by kernel_rfl) hargs lo hlo h
/-- escutcheon/hour.fits -/
def lc59 : LCode := .seq (.reg []
  [⟨some 4, .assign (.const (.bool false)), none⟩]) (.seq (.seq (.reg []
  [⟨some 7, .move (.tmp 0), none⟩,
  ⟨some 8, .call { callee := .builtin .len, args := #[.tmp 7], argTypes := #[9] }, none⟩,
  ⟨some 9, .move (.const (.int .i64 0)), none⟩]) (.block 0 (.loop (.seq (.reg []
  [⟨some 10, .binOp .lss 3 (.tmp 9) (.tmp 8) 3, none⟩]) (.seq (.cond (.tmp 10) (.skip) (.exit 0)) (.seq (.block 1 (.seq (.reg []
  [⟨some 11, .move (.tmp 9), none⟩,
  ⟨some 5, .assign (.tmp 11), none⟩]) (.seq (.reg []
  [⟨some 12, .move (.tmp 0), none⟩,
  ⟨some 13, .move (.tmp 5), none⟩,
  ⟨some 14, .index 9 (.tmp 12) (.tmp 13), none⟩,
  ⟨some 15, .binOp .geq 5 (.tmp 14) (.const (.int .u8 48)) 5, none⟩,
  ⟨some 16, .move (.tmp 15), none⟩,
  ⟨some 17, .move (.tmp 0), (some (16, true))⟩,
  ⟨some 18, .move (.tmp 5), (some (16, true))⟩,
  ⟨some 19, .index 9 (.tmp 17) (.tmp 18), (some (16, true))⟩,
  ⟨some 20, .binOp .leq 5 (.tmp 19) (.const (.int .u8 57)) 5, (some (16, true))⟩,
  ⟨some 21, .pick (.tmp 16) (.tmp 20) (.const (.bool false)), none⟩,
  ⟨some 6, .assign (.tmp 21), none⟩]) (.seq (.reg [⟨some 22, .move (.tmp 5), none⟩,
  ⟨some 23, .move (.tmp 1), none⟩,
  ⟨some 24, .call { callee := .builtin .len, args := #[.tmp 23], argTypes := #[9] }, none⟩,
  ⟨some 25, .binOp .geq 3 (.tmp 22) (.tmp 24) 3, none⟩,
  ⟨some 26, .move (.tmp 25), none⟩,
  ⟨some 27, .move (.tmp 6), (some (26, false))⟩,
  ⟨some 28, .move (.tmp 1), (some (26, false))⟩,
  ⟨some 29, .move (.tmp 5), (some (26, false))⟩,
  ⟨some 30, .index 9 (.tmp 28) (.tmp 29), (some (26, false))⟩,
  ⟨some 31, .binOp .eql 5 (.tmp 30) (.const (.int .u8 100)) 5, (some (26, false))⟩,
  ⟨some 32, .binOp .neq 4 (.tmp 27) (.tmp 31) 4, (some (26, false))⟩,
  ⟨some 33, .pick (.tmp 26) (.const (.bool true)) (.tmp 32), none⟩,
  ⟨some 34, .move (.tmp 33), none⟩,
  ⟨some 35, .move (.tmp 6), (some (34, false))⟩,
  ⟨some 36, .unOp .not 4 (.tmp 35), (some (34, false))⟩,
  ⟨some 37, .move (.tmp 36), (some (34, false))⟩,
  ⟨some 38, .move (.tmp 0), (some (37, true))⟩,
  ⟨some 39, .move (.tmp 5), (some (37, true))⟩,
  ⟨some 40, .index 9 (.tmp 38) (.tmp 39), (some (37, true))⟩,
  ⟨some 41, .move (.tmp 1), (some (37, true))⟩,
  ⟨some 42, .move (.tmp 5), (some (37, true))⟩,
  ⟨some 43, .index 9 (.tmp 41) (.tmp 42), (some (37, true))⟩,
  ⟨some 44, .binOp .neq 5 (.tmp 40) (.tmp 43) 5, (some (37, true))⟩,
  ⟨some 45, .pick (.tmp 37) (.tmp 44) (.const (.bool false)), (some (34, false))⟩,
  ⟨some 46, .pick (.tmp 34) (.const (.bool true)) (.tmp 45), none⟩]
  []) (.cond (.tmp 46) (.seq (.reg []
  [⟨some 4, .assign (.const (.bool false)), none⟩]) (.ret)) (.skip)))))) (.reg []
  [⟨some 47, .binOp .add 3 (.tmp 9) (.const (.int .i64 1)) 3, none⟩,
  ⟨some 9, .move (.tmp 47), none⟩]))))))) (.seq (.reg []
  [⟨some 48, .move (.tmp 0), none⟩,
  ⟨some 49, .call { callee := .builtin .len, args := #[.tmp 48], argTypes := #[9] }, none⟩,
  ⟨some 50, .move (.tmp 1), none⟩,
  ⟨some 51, .call { callee := .builtin .len, args := #[.tmp 50], argTypes := #[9] }, none⟩,
  ⟨some 52, .binOp .eql 3 (.tmp 49) (.tmp 51) 3, none⟩,
  ⟨some 4, .assign (.tmp 52), none⟩]) (.ret)))
def ms59_0 : List Nat := [2, 3, 4, 5, 6, 7, 9, 10, 11, 12, 13, 14, 15, 16, 17, 18, 19, 20, 21, 22, 23, 24, 25, 26, 27, 28, 29, 30, 31, 32, 33, 34, 35, 36, 37, 38, 39, 40, 41, 42, 43, 44, 45, 46, 47]
theorem ls59 : Tryd.f59.body.map (strip Tryd.prog impCodA) = some lc59 := by kernel_rfl
theorem lcall59 {args : List AV} (hargs : args.length ≤ 53) {H0 : AHeap} (lo : Nat) (hlo : H0.length ≤ lo) {r0 : AV} {H0' : AHeap}
    (h : lavc Tryd.prog glob lc59 (args ++ List.replicate (53 - args.length) (.v undef)) H0 fun e t H => (e = .normal ∨ e = .ret) ∧ aret Tryd.prog t H [Go.ResultVar.tmp 4] fun r => Fin lo H r r0 H0') :
    ACall Tryd.prog glob (H0.length == 0) 59 args H0 r0 H0' := LCall' ctx Tryd.func59 (by kernel_rfl) ls59 (by kernel_rfl) (by kernel_rfl) hargs lo hlo h
/-- escutcheon/hour.number -/
def lc60 : LCode := .seq (.reg []
  [⟨some 2, .assign (.const (.int .i64 0)), none⟩]) (.seq (.reg []
  [⟨some 6, .move (.tmp 0), none⟩,
  ⟨some 7, .call { callee := .value (.func 71), args := #[.tmp 6], argTypes := #[9] }, none⟩,
  ⟨some 5, .move (.tmp 7), none⟩,
  ⟨some 8, .extract (.tmp 5) 0, none⟩,
  ⟨some 9, .extract (.tmp 5) 1, none⟩,
  ⟨some 3, .assign (.tmp 8), none⟩,
  ⟨some 4, .assign (.tmp 9), none⟩]) (.seq (.reg []
  [⟨some 10, .move (.tmp 3), none⟩,
  ⟨some 2, .assign (.tmp 10), none⟩]) (.ret)))
theorem ls60 : Tryd.f60.body.map (strip Tryd.prog impCodA) = some lc60 := by kernel_rfl
theorem lcall60 {args : List AV} (hargs : args.length ≤ 11) {H0 : AHeap} (lo : Nat) (hlo : H0.length ≤ lo) {r0 : AV} {H0' : AHeap}
    (h : lavc Tryd.prog glob lc60 (args ++ List.replicate (11 - args.length) (.v undef)) H0 fun e t H => (e = .normal ∨ e = .ret) ∧ aret Tryd.prog t H [Go.ResultVar.tmp 2] fun r => Fin lo H r r0 H0') :
    ACall Tryd.prog glob (H0.length == 0) 60 args H0 r0 H0' := LCall' ctx Tryd.func60 (by kernel_rfl) ls60 (by kernel_rfl) (by kernel_rfl) hargs lo hlo h
/-- (escutcheon/hour.moment).good -/
def lc61 : LCode := .seq (.reg []
  [⟨some 1, .box 58 (.tmp 0), none⟩,
  ⟨some 2, .assign (.const (.bool false)), none⟩]) (.seq (.reg [⟨some 3, .fieldAddr 58 (.tmp 1) 0, none⟩,
  ⟨some 4, .fieldAddr 56 (.tmp 3) 1, none⟩,
  ⟨some 5, .load 3 (.tmp 4), none⟩,
  ⟨some 6, .binOp .geq 3 (.tmp 5) (.const (.int .i64 1)) 3, none⟩,
  ⟨some 7, .move (.tmp 6), none⟩,
  ⟨some 8, .fieldAddr 58 (.tmp 1) 0, (some (7, true))⟩,
  ⟨some 9, .fieldAddr 56 (.tmp 8) 1, (some (7, true))⟩,
  ⟨some 10, .load 3 (.tmp 9), (some (7, true))⟩,
  ⟨some 11, .binOp .leq 3 (.tmp 10) (.const (.int .i64 12)) 3, (some (7, true))⟩,
  ⟨some 12, .pick (.tmp 7) (.tmp 11) (.const (.bool false)), none⟩,
  ⟨some 13, .move (.tmp 12), none⟩,
  ⟨some 14, .fieldAddr 58 (.tmp 1) 0, (some (13, true))⟩,
  ⟨some 15, .fieldAddr 56 (.tmp 14) 2, (some (13, true))⟩,
  ⟨some 16, .load 3 (.tmp 15), (some (13, true))⟩,
  ⟨some 17, .binOp .geq 3 (.tmp 16) (.const (.int .i64 1)) 3, (some (13, true))⟩,
  ⟨some 18, .pick (.tmp 13) (.tmp 17) (.const (.bool false)), none⟩,
  ⟨some 19, .move (.tmp 18), none⟩,
  ⟨some 20, .fieldAddr 58 (.tmp 1) 0, (some (19, true))⟩,
  ⟨some 21, .fieldAddr 56 (.tmp 20) 2, (some (19, true))⟩,
  ⟨some 22, .load 3 (.tmp 21), (some (19, true))⟩,
  ⟨some 23, .fieldAddr 58 (.tmp 1) 0, (some (19, true))⟩,
  ⟨some 24, .fieldAddr 56 (.tmp 23) 0, (some (19, true))⟩,
  ⟨some 25, .load 3 (.tmp 24), (some (19, true))⟩,
  ⟨some 26, .fieldAddr 58 (.tmp 1) 0, (some (19, true))⟩,
  ⟨some 27, .fieldAddr 56 (.tmp 26) 1, (some (19, true))⟩,
  ⟨some 28, .load 3 (.tmp 27), (some (19, true))⟩,
  ⟨some 29, .call { callee := .value (.func 34), args := #[.tmp 25, .tmp 28], argTypes := #[3, 3] }, (some (19, true))⟩,
  ⟨some 30, .binOp .leq 3 (.tmp 22) (.tmp 29) 3, (some (19, true))⟩,
  ⟨some 31, .pick (.tmp 19) (.tmp 30) (.const (.bool false)), none⟩,
  ⟨some 32, .move (.tmp 31), none⟩,
  ⟨some 33, .fieldAddr 58 (.tmp 1) 1, (some (32, true))⟩,
  ⟨some 34, .load 3 (.tmp 33), (some (32, true))⟩,
  ⟨some 35, .binOp .leq 3 (.tmp 34) (.const (.int .i64 23)) 3, (some (32, true))⟩,
  ⟨some 36, .pick (.tmp 32) (.tmp 35) (.const (.bool false)), none⟩,
  ⟨some 37, .move (.tmp 36), none⟩,
  ⟨some 38, .fieldAddr 58 (.tmp 1) 2, (some (37, true))⟩,
  ⟨some 39, .load 3 (.tmp 38), (some (37, true))⟩,
  ⟨some 40, .binOp .leq 3 (.tmp 39) (.const (.int .i64 59)) 3, (some (37, true))⟩,
  ⟨some 41, .pick (.tmp 37) (.tmp 40) (.const (.bool false)), none⟩,
  ⟨some 42, .move (.tmp 41), none⟩,
  ⟨some 43, .fieldAddr 58 (.tmp 1) 3, (some (42, true))⟩,
  ⟨some 44, .load 3 (.tmp 43), (some (42, true))⟩,
  ⟨some 45, .binOp .leq 3 (.tmp 44) (.const (.int .i64 59)) 3, (some (42, true))⟩,
  ⟨some 46, .pick (.tmp 42) (.tmp 45) (.const (.bool false)), none⟩,
  ⟨some 2, .assign (.tmp 46), none⟩]
  []) (.ret))
theorem ls61 : Tryd.f61.body.map (strip Tryd.prog impCodA) = some lc61 := by kernel_rfl
theorem lcall61 {args : List AV} (hargs : args.length ≤ 47) {H0 : AHeap} (lo : Nat) (hlo : H0.length ≤ lo) {r0 : AV} {H0' : AHeap}
    (h : lavc Tryd.prog glob lc61 (args ++ List.replicate (47 - args.length) (.v undef)) H0 fun e t H => (e = .normal ∨ e = .ret) ∧ aret Tryd.prog t H [Go.ResultVar.tmp 2] fun r => Fin lo H r r0 H0') :
    ACall Tryd.prog glob (H0.length == 0) 61 args H0 r0 H0' := LCall' ctx Tryd.func61 (by kernel_rfl) ls61 (by kernel_rfl) (by kernel_rfl) hargs lo hlo h
/-- (escutcheon/hour.moment).seconds -/
def lc62 : LCode := .seq (.reg []
  [⟨some 1, .box 58 (.tmp 0), none⟩,
  ⟨some 2, .assign (.const (.int .i64 0)), none⟩]) (.seq (.reg [⟨some 3, .fieldAddr 58 (.tmp 1) 0, none⟩,
  ⟨some 4, .load 56 (.tmp 3), none⟩,
  ⟨some 5, .call { callee := .value (.func 72), args := #[.tmp 4], argTypes := #[56] }, none⟩,
  ⟨some 6, .binOp .sub 3 (.tmp 5) (.const (.int .i64 719528)) 3, none⟩,
  ⟨some 7, .binOp .mul 3 (.tmp 6) (.const (.int .i64 86400)) 3, none⟩,
  ⟨some 8, .fieldAddr 58 (.tmp 1) 1, none⟩,
  ⟨some 9, .load 3 (.tmp 8), none⟩,
  ⟨some 10, .binOp .mul 3 (.tmp 9) (.const (.int .i64 3600)) 3, none⟩,
  ⟨some 11, .binOp .add 3 (.tmp 7) (.tmp 10) 3, none⟩,
  ⟨some 12, .fieldAddr 58 (.tmp 1) 2, none⟩,
  ⟨some 13, .load 3 (.tmp 12), none⟩,
  ⟨some 14, .binOp .mul 3 (.tmp 13) (.const (.int .i64 60)) 3, none⟩,
  ⟨some 15, .binOp .add 3 (.tmp 11) (.tmp 14) 3, none⟩,
  ⟨some 16, .fieldAddr 58 (.tmp 1) 3, none⟩,
  ⟨some 17, .load 3 (.tmp 16), none⟩,
  ⟨some 18, .binOp .add 3 (.tmp 15) (.tmp 17) 3, none⟩,
  ⟨some 2, .assign (.tmp 18), none⟩]
  []) (.ret))
theorem ls62 : Tryd.f62.body.map (strip Tryd.prog impCodA) = some lc62 := by kernel_rfl
theorem lcall62 {args : List AV} (hargs : args.length ≤ 19) {H0 : AHeap} (lo : Nat) (hlo : H0.length ≤ lo) {r0 : AV} {H0' : AHeap}
    (h : lavc Tryd.prog glob lc62 (args ++ List.replicate (19 - args.length) (.v undef)) H0 fun e t H => (e = .normal ∨ e = .ret) ∧ aret Tryd.prog t H [Go.ResultVar.tmp 2] fun r => Fin lo H r r0 H0') :
    ACall Tryd.prog glob (H0.length == 0) 62 args H0 r0 H0' := LCall' ctx Tryd.func62 (by kernel_rfl) ls62 (by kernel_rfl) (by kernel_rfl) hargs lo hlo h
/-- internal/strconv.FormatInt -/
def lc63 : LCode := .seq (.reg []
  [⟨some 4, .assign (.const (.string { data := #[] })), none⟩]) (.seq (.seq (.reg []
  [⟨some 10, .move (.tmp 1), none⟩,
  ⟨some 11, .binOp .eql 3 (.tmp 10) (.const (.int .i64 10)) 3, none⟩]) (.cond (.tmp 11) (.seq (.seq (.reg []
  [⟨some 12, .move (.tmp 0), none⟩,
  ⟨some 13, .binOp .leq 2 (.const (.int .i64 0)) (.tmp 12) 2, none⟩,
  ⟨some 14, .move (.tmp 13), none⟩,
  ⟨some 15, .move (.tmp 0), (some (14, true))⟩,
  ⟨some 16, .binOp .lss 2 (.tmp 15) (.const (.int .i64 100)) 2, (some (14, true))⟩,
  ⟨some 17, .pick (.tmp 14) (.tmp 16) (.const (.bool false)), none⟩]) (.cond (.tmp 17) (.seq (.reg []
  [⟨some 18, .move (.tmp 0), none⟩,
  ⟨some 19, .call { callee := .value (.func 73), args := #[.tmp 18], argTypes := #[3] }, none⟩,
  ⟨some 4, .assign (.tmp 19), none⟩]) (.ret)) (.skip))) (.seq (.reg []
  [⟨some 5, .alloc 120, none⟩]) (.seq (.reg []
  [⟨some 20, .move (.tmp 0), none⟩,
  ⟨some 21, .convert 2 111 (.tmp 20), none⟩,
  ⟨some 6, .assign (.tmp 21), none⟩]) (.seq (.seq (.reg []
  [⟨some 22, .move (.tmp 0), none⟩,
  ⟨some 23, .binOp .lss 2 (.tmp 22) (.const (.int .i64 0)) 2, none⟩]) (.cond (.tmp 23) (.reg []
  [⟨some 24, .move (.tmp 6), none⟩,
  ⟨some 25, .unOp .neg 111 (.tmp 24), none⟩,
  ⟨some 6, .assign (.tmp 25), none⟩]) (.skip))) (.seq (.reg []
  [⟨some 26, .move (.tmp 6), none⟩,
  ⟨some 27, .call { callee := .value (.func 74), args := #[.tmp 26], argTypes := #[111] }, none⟩,
  ⟨some 7, .assign (.tmp 27), none⟩]) (.seq (.reg []
  [⟨some 28, .move (.tmp 7), none⟩,
  ⟨some 29, .binOp .add 3 (.const (.int .i64 1)) (.tmp 28) 3, none⟩,
  ⟨some 30, .slice 120 (.tmp 5) (some (.const (.int .i64 1))) (some (.tmp 29)) none, none⟩,
  ⟨some 31, .move (.tmp 6), none⟩,
  ⟨some 32, .call { callee := .value (.func 75), args := #[.tmp 30, .tmp 31], argTypes := #[61, 111] }, none⟩]) (.seq (.seq (.reg []
  [⟨some 33, .move (.tmp 0), none⟩,
  ⟨some 34, .binOp .lss 2 (.tmp 33) (.const (.int .i64 0)) 2, none⟩]) (.cond (.tmp 34) (.seq (.reg []
  [⟨some 35, .indexAddr 120 (.tmp 5) (.const (.int .i64 0)), none⟩,
  ⟨none, .store 5 (.tmp 35) (.const (.int .u8 45)), none⟩]) (.seq (.reg []
  [⟨some 36, .move (.tmp 7), none⟩,
  ⟨some 37, .binOp .add 3 (.const (.int .i64 1)) (.tmp 36) 3, none⟩,
  ⟨some 38, .slice 120 (.tmp 5) none (some (.tmp 37)) none, none⟩,
  ⟨some 39, .convert 61 9 (.tmp 38), none⟩,
  ⟨some 4, .assign (.tmp 39), none⟩]) (.ret))) (.skip))) (.seq (.reg []
  [⟨some 40, .move (.tmp 7), none⟩,
  ⟨some 41, .binOp .add 3 (.const (.int .i64 1)) (.tmp 40) 3, none⟩,
  ⟨some 42, .slice 120 (.tmp 5) (some (.const (.int .i64 1))) (some (.tmp 41)) none, none⟩,
  ⟨some 43, .convert 61 9 (.tmp 42), none⟩,
  ⟨some 4, .assign (.tmp 43), none⟩]) (.ret))))))))) (.skip))) (.seq (.reg []
  [⟨some 45, .move (.tmp 0), none⟩,
  ⟨some 46, .convert 2 111 (.tmp 45), none⟩,
  ⟨some 47, .move (.tmp 1), none⟩,
  ⟨some 48, .move (.tmp 0), none⟩,
  ⟨some 49, .binOp .lss 2 (.tmp 48) (.const (.int .i64 0)) 2, none⟩,
  ⟨some 50, .call { callee := .value (.func 76), args := #[.const (.slice none 0 0), .tmp 46, .tmp 47, .tmp 49, .const (.bool false)], argTypes := #[61, 111, 3, 4, 4] }, none⟩,
  ⟨some 44, .move (.tmp 50), none⟩,
  ⟨some 51, .extract (.tmp 44) 0, none⟩,
  ⟨some 52, .extract (.tmp 44) 1, none⟩,
  ⟨some 8, .assign (.tmp 51), none⟩,
  ⟨some 9, .assign (.tmp 52), none⟩]) (.seq (.reg []
  [⟨some 53, .move (.tmp 9), none⟩,
  ⟨some 4, .assign (.tmp 53), none⟩]) (.ret))))
theorem ls63 : Tryd.f63.body.map (strip Tryd.prog impCodA) = some lc63 := by kernel_rfl
theorem lcall63 {args : List AV} (hargs : args.length ≤ 54) {H0 : AHeap} (lo : Nat) (hlo : H0.length ≤ lo) {r0 : AV} {H0' : AHeap}
    (h : lavc Tryd.prog glob lc63 (args ++ List.replicate (54 - args.length) (.v undef)) H0 fun e t H => (e = .normal ∨ e = .ret) ∧ aret Tryd.prog t H [Go.ResultVar.tmp 4] fun r => Fin lo H r r0 H0') :
    ACall Tryd.prog glob (H0.length == 0) 63 args H0 r0 H0' := LCall' ctx Tryd.func63 (by kernel_rfl) ls63 (by kernel_rfl) (by kernel_rfl) hargs lo hlo h
/-- math/bits.Mul32 -/
def lc64 : LCode := .seq (.reg []
  [⟨some 4, .assign (.const (.int .u32 0)), none⟩,
  ⟨some 5, .assign (.const (.int .u32 0)), none⟩]) (.seq (.reg []
  [⟨some 7, .move (.tmp 0), none⟩,
  ⟨some 8, .convert 108 111 (.tmp 7), none⟩,
  ⟨some 9, .move (.tmp 1), none⟩,
  ⟨some 10, .convert 108 111 (.tmp 9), none⟩,
  ⟨some 11, .binOp .mul 111 (.tmp 8) (.tmp 10) 111, none⟩,
  ⟨some 6, .assign (.tmp 11), none⟩]) (.seq (.reg []
  [⟨some 12, .move (.tmp 6), none⟩,
  ⟨some 13, .binOp .shr 111 (.tmp 12) (.const (.int .u64 32)) 97, none⟩,
  ⟨some 14, .convert 111 108 (.tmp 13), none⟩,
  ⟨some 15, .move (.tmp 6), none⟩,
  ⟨some 16, .convert 111 108 (.tmp 15), none⟩,
  ⟨some 4, .assign (.tmp 14), none⟩,
  ⟨some 5, .assign (.tmp 16), none⟩]) (.ret)))
theorem ls64 : Tryd.f64.body.map (strip Tryd.prog impCodA) = some lc64 := by kernel_rfl
theorem lcall64 {args : List AV} (hargs : args.length ≤ 17) {H0 : AHeap} (lo : Nat) (hlo : H0.length ≤ lo) {r0 : AV} {H0' : AHeap}
    (h : lavc Tryd.prog glob lc64 (args ++ List.replicate (17 - args.length) (.v undef)) H0 fun e t H => (e = .normal ∨ e = .ret) ∧ aret Tryd.prog t H [Go.ResultVar.tmp 4, Go.ResultVar.tmp 5] fun r => Fin lo H r r0 H0') :
    ACall Tryd.prog glob (H0.length == 0) 64 args H0 r0 H0' := LCall' ctx Tryd.func64 (by kernel_rfl) ls64 (by kernel_rfl) (by kernel_rfl) hargs lo hlo h
/-- math/bits.Mul64 -/
def lc65 : LCode := .seq (.reg []
  [⟨some 4, .assign (.const (.int .u64 0)), none⟩,
  ⟨some 5, .assign (.const (.int .u64 0)), none⟩]) (.seq (.reg []
  [⟨some 14, .move (.tmp 0), none⟩,
  ⟨some 15, .binOp .and 111 (.tmp 14) (.const (.int .u64 4294967295)) 111, none⟩,
  ⟨some 6, .assign (.tmp 15), none⟩]) (.seq (.reg []
  [⟨some 16, .move (.tmp 0), none⟩,
  ⟨some 17, .binOp .shr 111 (.tmp 16) (.const (.int .u64 32)) 97, none⟩,
  ⟨some 7, .assign (.tmp 17), none⟩]) (.seq (.reg []
  [⟨some 18, .move (.tmp 1), none⟩,
  ⟨some 19, .binOp .and 111 (.tmp 18) (.const (.int .u64 4294967295)) 111, none⟩,
  ⟨some 8, .assign (.tmp 19), none⟩]) (.seq (.reg []
  [⟨some 20, .move (.tmp 1), none⟩,
  ⟨some 21, .binOp .shr 111 (.tmp 20) (.const (.int .u64 32)) 97, none⟩,
  ⟨some 9, .assign (.tmp 21), none⟩]) (.seq (.reg []
  [⟨some 22, .move (.tmp 6), none⟩,
  ⟨some 23, .move (.tmp 8), none⟩,
  ⟨some 24, .binOp .mul 111 (.tmp 22) (.tmp 23) 111, none⟩,
  ⟨some 10, .assign (.tmp 24), none⟩]) (.seq (.reg []
  [⟨some 25, .move (.tmp 7), none⟩,
  ⟨some 26, .move (.tmp 8), none⟩,
  ⟨some 27, .binOp .mul 111 (.tmp 25) (.tmp 26) 111, none⟩,
  ⟨some 28, .move (.tmp 10), none⟩,
  ⟨some 29, .binOp .shr 111 (.tmp 28) (.const (.int .u64 32)) 97, none⟩,
  ⟨some 30, .binOp .add 111 (.tmp 27) (.tmp 29) 111, none⟩,
  ⟨some 11, .assign (.tmp 30), none⟩]) (.seq (.reg []
  [⟨some 31, .move (.tmp 11), none⟩,
  ⟨some 32, .binOp .and 111 (.tmp 31) (.const (.int .u64 4294967295)) 111, none⟩,
  ⟨some 12, .assign (.tmp 32), none⟩]) (.seq (.reg []
  [⟨some 33, .move (.tmp 11), none⟩,
  ⟨some 34, .binOp .shr 111 (.tmp 33) (.const (.int .u64 32)) 97, none⟩,
  ⟨some 13, .assign (.tmp 34), none⟩]) (.seq (.reg []
  [⟨some 35, .move (.tmp 12), none⟩,
  ⟨some 36, .move (.tmp 6), none⟩,
  ⟨some 37, .move (.tmp 9), none⟩,
  ⟨some 38, .binOp .mul 111 (.tmp 36) (.tmp 37) 111, none⟩,
  ⟨some 39, .binOp .add 111 (.tmp 35) (.tmp 38) 111, none⟩,
  ⟨some 12, .assign (.tmp 39), none⟩]) (.seq (.reg []
  [⟨some 40, .move (.tmp 7), none⟩,
  ⟨some 41, .move (.tmp 9), none⟩,
  ⟨some 42, .binOp .mul 111 (.tmp 40) (.tmp 41) 111, none⟩,
  ⟨some 43, .move (.tmp 13), none⟩,
  ⟨some 44, .binOp .add 111 (.tmp 42) (.tmp 43) 111, none⟩,
  ⟨some 45, .move (.tmp 12), none⟩,
  ⟨some 46, .binOp .shr 111 (.tmp 45) (.const (.int .u64 32)) 97, none⟩,
  ⟨some 47, .binOp .add 111 (.tmp 44) (.tmp 46) 111, none⟩,
  ⟨some 4, .assign (.tmp 47), none⟩]) (.seq (.reg []
  [⟨some 48, .move (.tmp 0), none⟩,
  ⟨some 49, .move (.tmp 1), none⟩,
  ⟨some 50, .binOp .mul 111 (.tmp 48) (.tmp 49) 111, none⟩,
  ⟨some 5, .assign (.tmp 50), none⟩]) (.ret))))))))))))
theorem ls65 : Tryd.f65.body.map (strip Tryd.prog impCodA) = some lc65 := by kernel_rfl
theorem lcall65 {args : List AV} (hargs : args.length ≤ 51) {H0 : AHeap} (lo : Nat) (hlo : H0.length ≤ lo) {r0 : AV} {H0' : AHeap}
    (h : lavc Tryd.prog glob lc65 (args ++ List.replicate (51 - args.length) (.v undef)) H0 fun e t H => (e = .normal ∨ e = .ret) ∧ aret Tryd.prog t H [Go.ResultVar.tmp 4, Go.ResultVar.tmp 5] fun r => Fin lo H r r0 H0') :
    ACall Tryd.prog glob (H0.length == 0) 65 args H0 r0 H0' := LCall' ctx Tryd.func65 (by kernel_rfl) ls65 (by kernel_rfl) (by kernel_rfl) hargs lo hlo h
/-- internal/stringslite.HasPrefix -/
def lc66 : LCode := .seq (.reg []
  [⟨some 4, .assign (.const (.bool false)), none⟩]) (.seq (.reg []
  [⟨some 5, .move (.tmp 0), none⟩,
  ⟨some 6, .call { callee := .builtin .len, args := #[.tmp 5], argTypes := #[9] }, none⟩,
  ⟨some 7, .move (.tmp 1), none⟩,
  ⟨some 8, .call { callee := .builtin .len, args := #[.tmp 7], argTypes := #[9] }, none⟩,
  ⟨some 9, .binOp .geq 3 (.tmp 6) (.tmp 8) 3, none⟩,
  ⟨some 10, .move (.tmp 9), none⟩,
  ⟨some 11, .move (.tmp 0), (some (10, true))⟩,
  ⟨some 12, .move (.tmp 1), (some (10, true))⟩,
  ⟨some 13, .call { callee := .builtin .len, args := #[.tmp 12], argTypes := #[9] }, (some (10, true))⟩,
  ⟨some 14, .slice 9 (.tmp 11) none (some (.tmp 13)) none, (some (10, true))⟩,
  ⟨some 15, .move (.tmp 1), (some (10, true))⟩,
  ⟨some 16, .binOp .eql 9 (.tmp 14) (.tmp 15) 9, (some (10, true))⟩,
  ⟨some 17, .pick (.tmp 10) (.tmp 16) (.const (.bool false)), none⟩,
  ⟨some 4, .assign (.tmp 17), none⟩]) (.ret))
theorem ls66 : Tryd.f66.body.map (strip Tryd.prog impCodA) = some lc66 := by kernel_rfl
theorem lcall66 {args : List AV} (hargs : args.length ≤ 18) {H0 : AHeap} (lo : Nat) (hlo : H0.length ≤ lo) {r0 : AV} {H0' : AHeap}
    (h : lavc Tryd.prog glob lc66 (args ++ List.replicate (18 - args.length) (.v undef)) H0 fun e t H => (e = .normal ∨ e = .ret) ∧ aret Tryd.prog t H [Go.ResultVar.tmp 4] fun r => Fin lo H r r0 H0') :
    ACall Tryd.prog glob (H0.length == 0) 66 args H0 r0 H0' := LCall' ctx Tryd.func66 (by kernel_rfl) ls66 (by kernel_rfl) (by kernel_rfl) hargs lo hlo h
/-- strconv.Atoi -/
def lc71 : LCode := .seq (.reg []
  [⟨some 2, .assign (.const (.int .i64 0)), none⟩,
  ⟨some 3, .assign (.const .nilIface), none⟩]) (.seq (.reg []
  [⟨some 7, .move (.tmp 0), none⟩,
  ⟨some 8, .call { callee := .value (.func 78), args := #[.tmp 7], argTypes := #[9] }, none⟩,
  ⟨some 6, .move (.tmp 8), none⟩,
  ⟨some 9, .extract (.tmp 6) 0, none⟩,
  ⟨some 10, .extract (.tmp 6) 1, none⟩,
  ⟨some 4, .assign (.tmp 9), none⟩,
  ⟨some 5, .assign (.tmp 10), none⟩]) (.seq (.seq (.reg []
  [⟨some 11, .move (.tmp 5), none⟩,
  ⟨some 12, .binOp .neq 65 (.tmp 11) (.const .nilIface) 65, none⟩]) (.cond (.tmp 12) (.seq (.reg []
  [⟨some 13, .move (.tmp 4), none⟩,
  ⟨some 14, .move (.tmp 0), none⟩,
  ⟨some 15, .move (.tmp 5), none⟩,
  ⟨some 16, .call { callee := .value (.func 79), args := #[.const (.string { data := #[65, 116, 111, 105] }), .tmp 14, .const (.int .i64 0), .const (.int .i64 0), .tmp 15], argTypes := #[9, 9, 3, 3, 65] }, none⟩,
  ⟨some 2, .assign (.tmp 13), none⟩,
  ⟨some 3, .assign (.tmp 16), none⟩]) (.ret)) (.skip))) (.seq (.reg []
  [⟨some 17, .move (.tmp 4), none⟩,
  ⟨some 2, .assign (.tmp 17), none⟩,
  ⟨some 3, .assign (.const .nilIface), none⟩]) (.ret))))
theorem ls71 : Tryd.f71.body.map (strip Tryd.prog impCodA) = some lc71 := by kernel_rfl
theorem lcall71 {args : List AV} (hargs : args.length ≤ 18) {H0 : AHeap} (lo : Nat) (hlo : H0.length ≤ lo) {r0 : AV} {H0' : AHeap}
    (h : lavc Tryd.prog glob lc71 (args ++ List.replicate (18 - args.length) (.v undef)) H0 fun e t H => (e = .normal ∨ e = .ret) ∧ aret Tryd.prog t H [Go.ResultVar.tmp 2, Go.ResultVar.tmp 3] fun r => Fin lo H r r0 H0') :
    ACall Tryd.prog glob (H0.length == 0) 71 args H0 r0 H0' := LCall' ctx Tryd.func71 (by kernel_rfl) ls71 (by kernel_rfl) (by kernel_rfl) hargs lo hlo h
/-- (escutcheon/hour.date).days -/
def lc72 : LCode := .seq (.reg []
  [⟨some 1, .box 56 (.tmp 0), none⟩,
  ⟨some 2, .assign (.const (.int .i64 0)), none⟩]) (.seq (.reg [⟨some 5, .fieldAddr 56 (.tmp 1) 0, none⟩,
  ⟨some 6, .load 3 (.tmp 5), none⟩,
  ⟨some 7, .call { callee := .value (.func 33), args := #[.tmp 6], argTypes := #[3] }, none⟩,
  ⟨some 8, .fieldAddr 56 (.tmp 1) 2, none⟩,
  ⟨some 9, .load 3 (.tmp 8), none⟩,
  ⟨some 10, .binOp .add 3 (.tmp 7) (.tmp 9) 3, none⟩,
  ⟨some 11, .binOp .sub 3 (.tmp 10) (.const (.int .i64 1)) 3, none⟩,
  ⟨some 3, .assign (.tmp 11), none⟩]
  []) (.seq (.seq (.reg []
  [⟨some 4, .assign (.const (.int .i64 1)), none⟩]) (.block 0 (.loop (.seq (.seq (.reg []
  [⟨some 12, .move (.tmp 4), none⟩,
  ⟨some 13, .fieldAddr 56 (.tmp 1) 1, none⟩,
  ⟨some 14, .load 3 (.tmp 13), none⟩,
  ⟨some 15, .binOp .lss 3 (.tmp 12) (.tmp 14) 3, none⟩]) (.cond (.tmp 15) (.skip) (.exit 0))) (.seq (.block 1 (.reg []
  [⟨some 18, .move (.tmp 3), none⟩,
  ⟨some 19, .fieldAddr 56 (.tmp 1) 0, none⟩,
  ⟨some 20, .load 3 (.tmp 19), none⟩,
  ⟨some 21, .move (.tmp 4), none⟩,
  ⟨some 22, .call { callee := .value (.func 34), args := #[.tmp 20, .tmp 21], argTypes := #[3, 3] }, none⟩,
  ⟨some 23, .binOp .add 3 (.tmp 18) (.tmp 22) 3, none⟩,
  ⟨some 3, .assign (.tmp 23), none⟩])) (.reg []
  [⟨some 16, .move (.tmp 4), none⟩,
  ⟨some 17, .binOp .add 3 (.tmp 16) (.const (.int .i64 1)) 3, none⟩,
  ⟨some 4, .assign (.tmp 17), none⟩])))))) (.seq (.reg []
  [⟨some 24, .move (.tmp 3), none⟩,
  ⟨some 2, .assign (.tmp 24), none⟩]) (.ret))))
def ms72_0 : List Nat := [0, 3, 4, 5, 6, 7, 8, 9, 10, 11, 12, 13, 14, 15, 16, 17, 18, 19, 20, 21, 22, 23]
theorem ls72 : Tryd.f72.body.map (strip Tryd.prog impCodA) = some lc72 := by kernel_rfl
theorem lcall72 {args : List AV} (hargs : args.length ≤ 25) {H0 : AHeap} (lo : Nat) (hlo : H0.length ≤ lo) {r0 : AV} {H0' : AHeap}
    (h : lavc Tryd.prog glob lc72 (args ++ List.replicate (25 - args.length) (.v undef)) H0 fun e t H => (e = .normal ∨ e = .ret) ∧ aret Tryd.prog t H [Go.ResultVar.tmp 2] fun r => Fin lo H r r0 H0') :
    ACall Tryd.prog glob (H0.length == 0) 72 args H0 r0 H0' := LCall' ctx Tryd.func72 (by kernel_rfl) ls72 (by kernel_rfl) (by kernel_rfl) hargs lo hlo h
/-- internal/strconv.small -/
def lc73 : LCode := .seq (.reg []
  [⟨some 2, .assign (.const (.string { data := #[] })), none⟩]) (.seq (.seq (.reg []
  [⟨some 3, .move (.tmp 0), none⟩,
  ⟨some 4, .binOp .lss 3 (.tmp 3) (.const (.int .i64 10)) 3, none⟩]) (.cond (.tmp 4) (.seq (.reg []
  [⟨some 5, .move (.tmp 0), none⟩,
  ⟨some 6, .move (.tmp 0), none⟩,
  ⟨some 7, .binOp .add 3 (.tmp 6) (.const (.int .i64 1)) 3, none⟩,
  ⟨some 8, .slice 9 (.const (.string { data := #[48, 49, 50, 51, 52, 53, 54, 55, 56, 57, 97, 98, 99, 100, 101, 102, 103, 104, 105, 106, 107, 108, 109, 110, 111, 112, 113, 114, 115, 116, 117, 118, 119, 120, 121, 122] })) (some (.tmp 5)) (some (.tmp 7)) none, none⟩,
  ⟨some 2, .assign (.tmp 8), none⟩]) (.ret)) (.skip))) (.seq (.reg []
  [⟨some 9, .move (.tmp 0), none⟩,
  ⟨some 10, .binOp .mul 3 (.tmp 9) (.const (.int .i64 2)) 3, none⟩,
  ⟨some 11, .move (.tmp 0), none⟩,
  ⟨some 12, .binOp .mul 3 (.tmp 11) (.const (.int .i64 2)) 3, none⟩,
  ⟨some 13, .binOp .add 3 (.tmp 12) (.const (.int .i64 2)) 3, none⟩,
  ⟨some 14, .slice 9 (.const (.string { data := #[48, 48, 48, 49, 48, 50, 48, 51, 48, 52, 48, 53, 48, 54, 48, 55, 48, 56, 48, 57, 49, 48, 49, 49, 49, 50, 49, 51, 49, 52, 49, 53, 49, 54, 49, 55, 49, 56, 49, 57, 50, 48, 50, 49, 50, 50, 50, 51, 50, 52, 50, 53, 50, 54, 50, 55, 50, 56, 50, 57, 51, 48, 51, 49, 51, 50, 51, 51, 51, 52, 51, 53, 51, 54, 51, 55, 51, 56, 51, 57, 52, 48, 52, 49, 52, 50, 52, 51, 52, 52, 52, 53, 52, 54, 52, 55, 52, 56, 52, 57, 53, 48, 53, 49, 53, 50, 53, 51, 53, 52, 53, 53, 53, 54, 53, 55, 53, 56, 53, 57, 54, 48, 54, 49, 54, 50, 54, 51, 54, 52, 54, 53, 54, 54, 54, 55, 54, 56, 54, 57, 55, 48, 55, 49, 55, 50, 55, 51, 55, 52, 55, 53, 55, 54, 55, 55, 55, 56, 55, 57, 56, 48, 56, 49, 56, 50, 56, 51, 56, 52, 56, 53, 56, 54, 56, 55, 56, 56, 56, 57, 57, 48, 57, 49, 57, 50, 57, 51, 57, 52, 57, 53, 57, 54, 57, 55, 57, 56, 57, 57] })) (some (.tmp 10)) (some (.tmp 13)) none, none⟩,
  ⟨some 2, .assign (.tmp 14), none⟩]) (.ret)))
theorem ls73 : Tryd.f73.body.map (strip Tryd.prog impCodA) = some lc73 := by kernel_rfl
theorem lcall73 {args : List AV} (hargs : args.length ≤ 15) {H0 : AHeap} (lo : Nat) (hlo : H0.length ≤ lo) {r0 : AV} {H0' : AHeap}
    (h : lavc Tryd.prog glob lc73 (args ++ List.replicate (15 - args.length) (.v undef)) H0 fun e t H => (e = .normal ∨ e = .ret) ∧ aret Tryd.prog t H [Go.ResultVar.tmp 2] fun r => Fin lo H r r0 H0') :
    ACall Tryd.prog glob (H0.length == 0) 73 args H0 r0 H0' := LCall' ctx Tryd.func73 (by kernel_rfl) ls73 (by kernel_rfl) (by kernel_rfl) hargs lo hlo h
/-- internal/strconv.numDigits -/
def lc74 : LCode := .seq (.reg []
  [⟨some 2, .assign (.const (.int .i64 0)), none⟩]) (.seq (.reg []
  [⟨some 4, .move (.tmp 0), none⟩,
  ⟨some 5, .call { callee := .value (.func 81), args := #[.tmp 4], argTypes := #[111] }, none⟩,
  ⟨some 6, .call { callee := .value (.func 80), args := #[.tmp 5], argTypes := #[3] }, none⟩,
  ⟨some 3, .assign (.tmp 6), none⟩]) (.seq (.reg []
  [⟨some 7, .move (.tmp 3), none⟩,
  ⟨some 8, .move (.tmp 0), none⟩,
  ⟨some 9, .move (.tmp 3), none⟩,
  ⟨some 10, .indexAddr 128 (.global 3) (.tmp 9), none⟩,
  ⟨some 11, .load 111 (.tmp 10), none⟩,
  ⟨some 12, .binOp .geq 111 (.tmp 8) (.tmp 11) 111, none⟩,
  ⟨some 13, .call { callee := .value (.func 82), args := #[.tmp 12], argTypes := #[4] }, none⟩,
  ⟨some 14, .binOp .add 3 (.tmp 7) (.tmp 13) 3, none⟩,
  ⟨some 2, .assign (.tmp 14), none⟩]) (.ret)))
theorem ls74 : Tryd.f74.body.map (strip Tryd.prog impCodA) = some lc74 := by kernel_rfl
theorem lcall74 {args : List AV} (hargs : args.length ≤ 15) {H0 : AHeap} (lo : Nat) (hlo : H0.length ≤ lo) {r0 : AV} {H0' : AHeap}
    (h : lavc Tryd.prog glob lc74 (args ++ List.replicate (15 - args.length) (.v undef)) H0 fun e t H => (e = .normal ∨ e = .ret) ∧ aret Tryd.prog t H [Go.ResultVar.tmp 2] fun r => Fin lo H r r0 H0') :
    ACall Tryd.prog glob (H0.length == 0) 74 args H0 r0 H0' := LCall' ctx Tryd.func74 (by kernel_rfl) ls74 (by kernel_rfl) (by kernel_rfl) hargs lo hlo h
/-- internal/strconv.Atoi -/
def lc78 : LCode := .seq (.reg []
  [⟨some 2, .assign (.const (.int .i64 0)), none⟩,
  ⟨some 3, .assign (.const .nilIface), none⟩]) (.seq (.reg []
  [⟨some 11, .move (.tmp 0), none⟩,
  ⟨some 12, .call { callee := .builtin .len, args := #[.tmp 11], argTypes := #[9] }, none⟩,
  ⟨some 4, .assign (.tmp 12), none⟩]) (.seq (.seq (.reg []
  [⟨some 13, .move (.const (.bool false)), none⟩,
  ⟨some 14, .move (.tmp 4), (some (13, true))⟩,
  ⟨some 15, .binOp .lss 3 (.const (.int .i64 0)) (.tmp 14) 3, (some (13, true))⟩,
  ⟨some 16, .move (.tmp 15), (some (13, true))⟩,
  ⟨some 17, .move (.tmp 4), (some (16, true))⟩,
  ⟨some 18, .binOp .lss 3 (.tmp 17) (.const (.int .i64 10)) 3, (some (16, true))⟩,
  ⟨some 19, .pick (.tmp 16) (.tmp 18) (.const (.bool false)), (some (13, true))⟩,
  ⟨some 20, .pick (.tmp 13) (.tmp 19) (.const (.bool false)), none⟩,
  ⟨some 21, .move (.tmp 20), none⟩,
  ⟨some 22, .move (.const (.bool true)), (some (21, false))⟩,
  ⟨some 23, .move (.tmp 4), (some (22, true))⟩,
  ⟨some 24, .binOp .lss 3 (.const (.int .i64 0)) (.tmp 23) 3, (some (22, true))⟩,
  ⟨some 25, .move (.tmp 24), (some (22, true))⟩,
  ⟨some 26, .move (.tmp 4), (some (25, true))⟩,
  ⟨some 27, .binOp .lss 3 (.tmp 26) (.const (.int .i64 19)) 3, (some (25, true))⟩,
  ⟨some 28, .pick (.tmp 25) (.tmp 27) (.const (.bool false)), (some (22, true))⟩,
  ⟨some 29, .pick (.tmp 22) (.tmp 28) (.const (.bool false)), (some (21, false))⟩,
  ⟨some 30, .pick (.tmp 21) (.const (.bool true)) (.tmp 29), none⟩]) (.cond (.tmp 30) (.seq (.reg []
  [⟨some 31, .move (.tmp 0), none⟩,
  ⟨some 5, .assign (.tmp 31), none⟩]) (.seq (.seq (.reg []
  [⟨some 32, .move (.tmp 0), none⟩,
  ⟨some 33, .index 9 (.tmp 32) (.const (.int .i64 0)), none⟩,
  ⟨some 34, .binOp .eql 5 (.tmp 33) (.const (.int .u8 45)) 5, none⟩,
  ⟨some 35, .move (.tmp 34), none⟩,
  ⟨some 36, .move (.tmp 0), (some (35, false))⟩,
  ⟨some 37, .index 9 (.tmp 36) (.const (.int .i64 0)), (some (35, false))⟩,
  ⟨some 38, .binOp .eql 5 (.tmp 37) (.const (.int .u8 43)) 5, (some (35, false))⟩,
  ⟨some 39, .pick (.tmp 35) (.const (.bool true)) (.tmp 38), none⟩]) (.cond (.tmp 39) (.seq (.reg []
  [⟨some 40, .move (.tmp 0), none⟩,
  ⟨some 41, .slice 9 (.tmp 40) (some (.const (.int .i64 1))) none none, none⟩,
  ⟨some 0, .assign (.tmp 41), none⟩]) (.seq (.reg []
  [⟨some 42, .move (.tmp 0), none⟩,
  ⟨some 43, .call { callee := .builtin .len, args := #[.tmp 42], argTypes := #[9] }, none⟩,
  ⟨some 44, .binOp .lss 3 (.tmp 43) (.const (.int .i64 1)) 3, none⟩]) (.cond (.tmp 44) (.seq (.reg []
  [⟨some 45, .makeInterface 131 (.const (.int .i64 2)), none⟩,
  ⟨some 2, .assign (.const (.int .i64 0)), none⟩,
  ⟨some 3, .assign (.tmp 45), none⟩]) (.ret)) (.skip)))) (.skip))) (.seq (.reg []
  [⟨some 6, .assign (.const (.int .i64 0)), none⟩]) (.seq (.seq (.reg []
  [⟨some 46, .move (.tmp 0), none⟩,
  ⟨some 47, .convert 9 61 (.tmp 46), none⟩,
  ⟨some 48, .call { callee := .builtin .len, args := #[.tmp 47], argTypes := #[61] }, none⟩,
  ⟨some 49, .move (.const (.int .i64 0)), none⟩]) (.block 0 (.loop (.seq (.reg []
  [⟨some 50, .binOp .lss 3 (.tmp 49) (.tmp 48) 3, none⟩]) (.seq (.cond (.tmp 50) (.skip) (.exit 0)) (.seq (.block 1 (.seq (.reg []
  [⟨some 51, .indexAddr 61 (.tmp 47) (.tmp 49), none⟩,
  ⟨some 52, .load 5 (.tmp 51), none⟩,
  ⟨some 8, .assign (.tmp 52), none⟩]) (.seq (.reg []
  [⟨some 53, .move (.tmp 8), none⟩,
  ⟨some 54, .binOp .sub 5 (.tmp 53) (.const (.int .u8 48)) 5, none⟩,
  ⟨some 8, .assign (.tmp 54), none⟩]) (.seq (.seq (.reg []
  [⟨some 55, .move (.tmp 8), none⟩,
  ⟨some 56, .binOp .gtr 5 (.tmp 55) (.const (.int .u8 9)) 5, none⟩]) (.cond (.tmp 56) (.seq (.reg []
  [⟨some 57, .makeInterface 131 (.const (.int .i64 2)), none⟩,
  ⟨some 2, .assign (.const (.int .i64 0)), none⟩,
  ⟨some 3, .assign (.tmp 57), none⟩]) (.ret)) (.skip))) (.reg []
  [⟨some 58, .move (.tmp 6), none⟩,
  ⟨some 59, .binOp .mul 3 (.tmp 58) (.const (.int .i64 10)) 3, none⟩,
  ⟨some 60, .move (.tmp 8), none⟩,
  ⟨some 61, .convert 5 3 (.tmp 60), none⟩,
  ⟨some 62, .binOp .add 3 (.tmp 59) (.tmp 61) 3, none⟩,
  ⟨some 6, .assign (.tmp 62), none⟩]))))) (.reg []
  [⟨some 63, .binOp .add 3 (.tmp 49) (.const (.int .i64 1)) 3, none⟩,
  ⟨some 49, .move (.tmp 63), none⟩]))))))) (.seq (.seq (.reg []
  [⟨some 64, .move (.tmp 5), none⟩,
  ⟨some 65, .index 9 (.tmp 64) (.const (.int .i64 0)), none⟩,
  ⟨some 66, .binOp .eql 5 (.tmp 65) (.const (.int .u8 45)) 5, none⟩]) (.cond (.tmp 66) (.reg []
  [⟨some 67, .move (.tmp 6), none⟩,
  ⟨some 68, .unOp .neg 3 (.tmp 67), none⟩,
  ⟨some 6, .assign (.tmp 68), none⟩]) (.skip))) (.seq (.reg []
  [⟨some 69, .move (.tmp 6), none⟩,
  ⟨some 2, .assign (.tmp 69), none⟩,
  ⟨some 3, .assign (.const .nilIface), none⟩]) (.ret))))))) (.skip))) (.seq (.reg []
  [⟨some 71, .move (.tmp 0), none⟩,
  ⟨some 72, .call { callee := .value (.func 85), args := #[.tmp 71, .const (.int .i64 10), .const (.int .i64 0)], argTypes := #[9, 3, 3] }, none⟩,
  ⟨some 70, .move (.tmp 72), none⟩,
  ⟨some 73, .extract (.tmp 70) 0, none⟩,
  ⟨some 74, .extract (.tmp 70) 1, none⟩,
  ⟨some 9, .assign (.tmp 73), none⟩,
  ⟨some 10, .assign (.tmp 74), none⟩]) (.seq (.reg []
  [⟨some 75, .move (.tmp 9), none⟩,
  ⟨some 76, .move (.tmp 10), none⟩,
  ⟨some 2, .assign (.tmp 75), none⟩,
  ⟨some 3, .assign (.tmp 76), none⟩]) (.ret)))))
def ms78_0 : List Nat := [1, 2, 3, 4, 6, 7, 8, 11, 12, 13, 14, 15, 16, 17, 18, 19, 20, 21, 22, 23, 24, 25, 26, 27, 28, 29, 30, 31, 32, 33, 34, 35, 36, 37, 38, 39, 40, 41, 42, 43, 44, 45, 46, 49, 50, 51, 52, 53, 54, 55, 56, 57, 58, 59, 60, 61, 62, 63]
theorem ls78 : Tryd.f78.body.map (strip Tryd.prog impCodA) = some lc78 := by kernel_rfl
theorem lcall78 {args : List AV} (hargs : args.length ≤ 77) {H0 : AHeap} (lo : Nat) (hlo : H0.length ≤ lo) {r0 : AV} {H0' : AHeap}
    (h : lavc Tryd.prog glob lc78 (args ++ List.replicate (77 - args.length) (.v undef)) H0 fun e t H => (e = .normal ∨ e = .ret) ∧ aret Tryd.prog t H [Go.ResultVar.tmp 2, Go.ResultVar.tmp 3] fun r => Fin lo H r r0 H0') :
    ACall Tryd.prog glob (H0.length == 0) 78 args H0 r0 H0' := LCall' ctx Tryd.func78 (by kernel_rfl) ls78 (by kernel_rfl) (by kernel_rfl) hargs lo hlo h
/-- internal/strconv.log10Pow2 -/
def lc80 : LCode := .seq (.reg []
  [⟨some 2, .assign (.const (.int .i64 0)), none⟩]) (.seq (.reg []
  [⟨some 3, .move (.tmp 0), none⟩,
  ⟨some 4, .binOp .mul 3 (.tmp 3) (.const (.int .i64 78913)) 3, none⟩,
  ⟨some 5, .binOp .shr 3 (.tmp 4) (.const (.int .u64 18)) 97, none⟩,
  ⟨some 2, .assign (.tmp 5), none⟩]) (.ret))
theorem ls80 : Tryd.f80.body.map (strip Tryd.prog impCodA) = some lc80 := by kernel_rfl
theorem lcall80 {args : List AV} (hargs : args.length ≤ 6) {H0 : AHeap} (lo : Nat) (hlo : H0.length ≤ lo) {r0 : AV} {H0' : AHeap}
    (h : lavc Tryd.prog glob lc80 (args ++ List.replicate (6 - args.length) (.v undef)) H0 fun e t H => (e = .normal ∨ e = .ret) ∧ aret Tryd.prog t H [Go.ResultVar.tmp 2] fun r => Fin lo H r r0 H0') :
    ACall Tryd.prog glob (H0.length == 0) 80 args H0 r0 H0' := LCall' ctx Tryd.func80 (by kernel_rfl) ls80 (by kernel_rfl) (by kernel_rfl) hargs lo hlo h
/-- math/bits.Len64 -/
def lc81 : LCode := .seq (.reg []
  [⟨some 2, .assign (.const (.int .i64 0)), none⟩]) (.seq (.seq (.reg []
  [⟨some 3, .move (.tmp 0), none⟩,
  ⟨some 4, .binOp .geq 111 (.tmp 3) (.const (.int .u64 4294967296)) 111, none⟩]) (.cond (.tmp 4) (.seq (.reg []
  [⟨some 5, .move (.tmp 0), none⟩,
  ⟨some 6, .binOp .shr 111 (.tmp 5) (.const (.int .u64 32)) 97, none⟩,
  ⟨some 0, .assign (.tmp 6), none⟩]) (.reg []
  [⟨some 2, .assign (.const (.int .i64 32)), none⟩])) (.skip))) (.seq (.seq (.reg []
  [⟨some 7, .move (.tmp 0), none⟩,
  ⟨some 8, .binOp .geq 111 (.tmp 7) (.const (.int .u64 65536)) 111, none⟩]) (.cond (.tmp 8) (.seq (.reg []
  [⟨some 9, .move (.tmp 0), none⟩,
  ⟨some 10, .binOp .shr 111 (.tmp 9) (.const (.int .u64 16)) 97, none⟩,
  ⟨some 0, .assign (.tmp 10), none⟩]) (.reg []
  [⟨some 11, .move (.tmp 2), none⟩,
  ⟨some 12, .binOp .add 3 (.tmp 11) (.const (.int .i64 16)) 3, none⟩,
  ⟨some 2, .assign (.tmp 12), none⟩])) (.skip))) (.seq (.seq (.reg []
  [⟨some 13, .move (.tmp 0), none⟩,
  ⟨some 14, .binOp .geq 111 (.tmp 13) (.const (.int .u64 256)) 111, none⟩]) (.cond (.tmp 14) (.seq (.reg []
  [⟨some 15, .move (.tmp 0), none⟩,
  ⟨some 16, .binOp .shr 111 (.tmp 15) (.const (.int .u64 8)) 97, none⟩,
  ⟨some 0, .assign (.tmp 16), none⟩]) (.reg []
  [⟨some 17, .move (.tmp 2), none⟩,
  ⟨some 18, .binOp .add 3 (.tmp 17) (.const (.int .i64 8)) 3, none⟩,
  ⟨some 2, .assign (.tmp 18), none⟩])) (.skip))) (.seq (.reg []
  [⟨some 19, .move (.tmp 2), none⟩,
  ⟨some 20, .move (.tmp 0), none⟩,
  ⟨some 21, .convert 111 5 (.tmp 20), none⟩,
  ⟨some 22, .index 9 (.const (.string { data := #[0, 1, 2, 2, 3, 3, 3, 3, 4, 4, 4, 4, 4, 4, 4, 4, 5, 5, 5, 5, 5, 5, 5, 5, 5, 5, 5, 5, 5, 5, 5, 5, 6, 6, 6, 6, 6, 6, 6, 6, 6, 6, 6, 6, 6, 6, 6, 6, 6, 6, 6, 6, 6, 6, 6, 6, 6, 6, 6, 6, 6, 6, 6, 6, 7, 7, 7, 7, 7, 7, 7, 7, 7, 7, 7, 7, 7, 7, 7, 7, 7, 7, 7, 7, 7, 7, 7, 7, 7, 7, 7, 7, 7, 7, 7, 7, 7, 7, 7, 7, 7, 7, 7, 7, 7, 7, 7, 7, 7, 7, 7, 7, 7, 7, 7, 7, 7, 7, 7, 7, 7, 7, 7, 7, 7, 7, 7, 7, 8, 8, 8, 8, 8, 8, 8, 8, 8, 8, 8, 8, 8, 8, 8, 8, 8, 8, 8, 8, 8, 8, 8, 8, 8, 8, 8, 8, 8, 8, 8, 8, 8, 8, 8, 8, 8, 8, 8, 8, 8, 8, 8, 8, 8, 8, 8, 8, 8, 8, 8, 8, 8, 8, 8, 8, 8, 8, 8, 8, 8, 8, 8, 8, 8, 8, 8, 8, 8, 8, 8, 8, 8, 8, 8, 8, 8, 8, 8, 8, 8, 8, 8, 8, 8, 8, 8, 8, 8, 8, 8, 8, 8, 8, 8, 8, 8, 8, 8, 8, 8, 8, 8, 8, 8, 8, 8, 8, 8, 8, 8, 8, 8, 8, 8, 8, 8, 8, 8, 8, 8, 8, 8, 8, 8, 8, 8, 8] })) (.tmp 21), none⟩,
  ⟨some 23, .convert 5 3 (.tmp 22), none⟩,
  ⟨some 24, .binOp .add 3 (.tmp 19) (.tmp 23) 3, none⟩,
  ⟨some 2, .assign (.tmp 24), none⟩]) (.ret)))))
theorem ls81 : Tryd.f81.body.map (strip Tryd.prog impCodA) = some lc81 := by kernel_rfl
theorem lcall81 {args : List AV} (hargs : args.length ≤ 25) {H0 : AHeap} (lo : Nat) (hlo : H0.length ≤ lo) {r0 : AV} {H0' : AHeap}
    (h : lavc Tryd.prog glob lc81 (args ++ List.replicate (25 - args.length) (.v undef)) H0 fun e t H => (e = .normal ∨ e = .ret) ∧ aret Tryd.prog t H [Go.ResultVar.tmp 2] fun r => Fin lo H r r0 H0') :
    ACall Tryd.prog glob (H0.length == 0) 81 args H0 r0 H0' := LCall' ctx Tryd.func81 (by kernel_rfl) ls81 (by kernel_rfl) (by kernel_rfl) hargs lo hlo h
/-- internal/strconv.bool2[int] -/
def lc82 : LCode := .seq (.reg []
  [⟨some 2, .assign (.const (.int .i64 0)), none⟩]) (.seq (.seq (.reg []
  [⟨some 3, .move (.tmp 0), none⟩]) (.cond (.tmp 3) (.seq (.reg []
  [⟨some 2, .assign (.const (.int .i64 1)), none⟩]) (.ret)) (.skip))) (.seq (.reg []
  [⟨some 2, .assign (.const (.int .i64 0)), none⟩]) (.ret)))
theorem ls82 : Tryd.f82.body.map (strip Tryd.prog impCodA) = some lc82 := by kernel_rfl
theorem lcall82 {args : List AV} (hargs : args.length ≤ 4) {H0 : AHeap} (lo : Nat) (hlo : H0.length ≤ lo) {r0 : AV} {H0' : AHeap}
    (h : lavc Tryd.prog glob lc82 (args ++ List.replicate (4 - args.length) (.v undef)) H0 fun e t H => (e = .normal ∨ e = .ret) ∧ aret Tryd.prog t H [Go.ResultVar.tmp 2] fun r => Fin lo H r r0 H0') :
    ACall Tryd.prog glob (H0.length == 0) 82 args H0 r0 H0' := LCall' ctx Tryd.func82 (by kernel_rfl) ls82 (by kernel_rfl) (by kernel_rfl) hargs lo hlo h
/-- escutcheon/escutcheonref21.First -/
def lc13 : LCode := .seq (.reg []
  [⟨some 0, .assign (.const (.int .i64 0)), none⟩]) (.seq (.reg []
  [⟨some 1, .call { callee := .value (.func 26), args := #[.const (.int .i64 0), .const (.int .i64 1), .const (.int .i64 1), .const (.int .i64 0), .const (.int .i64 0), .const (.int .i64 0)], argTypes := #[3, 3, 3, 3, 3, 3] }, none⟩,
  ⟨some 0, .assign (.tmp 1), none⟩]) (.ret))
theorem ls13 : Tryd.f13.body.map (strip Tryd.prog impCodA) = some lc13 := by kernel_rfl
theorem lcall13 {args : List AV} (hargs : args.length ≤ 2) {H0 : AHeap} (lo : Nat) (hlo : H0.length ≤ lo) {r0 : AV} {H0' : AHeap}
    (h : lavc Tryd.prog glob lc13 (args ++ List.replicate (2 - args.length) (.v undef)) H0 fun e t H => (e = .normal ∨ e = .ret) ∧ aret Tryd.prog t H [Go.ResultVar.tmp 0] fun r => Fin lo H r r0 H0') :
    ACall Tryd.prog glob (H0.length == 0) 13 args H0 r0 H0' := LCall' ctx Tryd.func13 (by kernel_rfl) ls13 (by kernel_rfl) (by kernel_rfl) hargs lo hlo h
/-- escutcheon/escutcheonref21.Last -/
def lc14 : LCode := .seq (.reg []
  [⟨some 0, .assign (.const (.int .i64 0)), none⟩]) (.seq (.reg []
  [⟨some 1, .call { callee := .value (.func 26), args := #[.const (.int .i64 9999), .const (.int .i64 12), .const (.int .i64 31), .const (.int .i64 23), .const (.int .i64 59), .const (.int .i64 59)], argTypes := #[3, 3, 3, 3, 3, 3] }, none⟩,
  ⟨some 0, .assign (.tmp 1), none⟩]) (.ret))
theorem ls14 : Tryd.f14.body.map (strip Tryd.prog impCodA) = some lc14 := by kernel_rfl
theorem lcall14 {args : List AV} (hargs : args.length ≤ 2) {H0 : AHeap} (lo : Nat) (hlo : H0.length ≤ lo) {r0 : AV} {H0' : AHeap}
    (h : lavc Tryd.prog glob lc14 (args ++ List.replicate (2 - args.length) (.v undef)) H0 fun e t H => (e = .normal ∨ e = .ret) ∧ aret Tryd.prog t H [Go.ResultVar.tmp 0] fun r => Fin lo H r r0 H0') :
    ACall Tryd.prog glob (H0.length == 0) 14 args H0 r0 H0' := LCall' ctx Tryd.func14 (by kernel_rfl) ls14 (by kernel_rfl) (by kernel_rfl) hargs lo hlo h
end Go.Abs.S
namespace Go.Abs.H
set_option linter.unusedSimpArgs false
set_option linter.unusedVariables false
def leapB (y : Int) : Bool := decide (y % 4 = 0 ∧ (y % 100 ≠ 0 ∨ y % 400 = 0))
/-- A month's days. -/
def mdays (y m : Int) : Int := if y < 0 ∨ 9999 < y ∨ m < 1 ∨ 12 < m then 0 else if m = 2 then (if leapB y = true then 29 else 28) else if m = 4 ∨ m = 6 ∨ m = 9 ∨ m = 11 then 30 else 31
/-- Days from the year 0 to a year's beginning. -/
def aheadY (y : Int) : Int := y * 365 + (y + 3) / 4 - (y + 99) / 100 + (y + 399) / 400
/-- Days of so many months. -/
def msum (y : Int) : Nat → Int
  | 0 => 0
  | k + 1 => msum y k + mdays y (k + 1)
def lp (y : Int) : Int := if leapB y = true then 1 else 0
theorem lp_le (y : Int) : 0 ≤ lp y ∧ lp y ≤ 1 := by unfold lp; split <;> omega
theorem ahead_succ (y : Int) (h : 0 ≤ y) : aheadY (y + 1) = aheadY y + 365 + lp y := by
  unfold aheadY lp leapB
  simp only [decide_eq_true_eq]
  split <;> omega
theorem mdays_of {y m : Int} (h : 0 ≤ y ∧ y ≤ 9999) (h1 : 1 ≤ m) (h2 : m ≤ 12) : mdays y m = if m = 2 then 28 + lp y else if m = 4 ∨ m = 6 ∨ m = 9 ∨ m = 11 then 30 else 31 := by
  unfold mdays lp
  rw [if_neg (by omega)]
  split
  · split <;> rfl
  · rfl
theorem mdays_le (y m : Int) : 0 ≤ mdays y m ∧ mdays y m ≤ 31 := by
  unfold mdays
  split
  · omega
  split
  · split <;> omega
  · split <;> omega
theorem mdays_pos {y m : Int} (h : 1 ≤ mdays y m) : 0 ≤ y ∧ y ≤ 9999 ∧ 1 ≤ m ∧ m ≤ 12 := by
  unfold mdays at h
  split at h
  · omega
  · omega
theorem msum_tab {y : Int} (h : 0 ≤ y ∧ y ≤ 9999) : msum y 1 = 31 ∧ msum y 2 = 59 + lp y ∧ msum y 3 = 90 + lp y ∧ msum y 4 = 120 + lp y ∧ msum y 5 = 151 + lp y ∧ msum y 6 = 181 + lp y ∧ msum y 7 = 212 + lp y ∧ msum y 8 = 243 + lp y ∧ msum y 9 = 273 + lp y ∧ msum y 10 = 304 + lp y ∧ msum y 11 = 334 + lp y ∧ msum y 12 = 365 + lp y := by
  have e := fun (m : Int) (h1 : 1 ≤ m) (h2 : m ≤ 12) => mdays_of (m := m) h h1 h2
  have e1 := e 1 (by omega) (by omega)
  have e2 := e 2 (by omega) (by omega)
  have e3 := e 3 (by omega) (by omega)
  have e4 := e 4 (by omega) (by omega)
  have e5 := e 5 (by omega) (by omega)
  have e6 := e 6 (by omega) (by omega)
  have e7 := e 7 (by omega) (by omega)
  have e8 := e 8 (by omega) (by omega)
  have e9 := e 9 (by omega) (by omega)
  have e10 := e 10 (by omega) (by omega)
  have e11 := e 11 (by omega) (by omega)
  have e12 := e 12 (by omega) (by omega)
  simp at e1 e2 e3 e4 e5 e6 e7 e8 e9 e10 e11 e12
  have z0 : msum y 0 = 0 := rfl
  have z1 : msum y 1 = msum y 0 + mdays y 1 := rfl
  have z2 : msum y 2 = msum y 1 + mdays y 2 := rfl
  have z3 : msum y 3 = msum y 2 + mdays y 3 := rfl
  have z4 : msum y 4 = msum y 3 + mdays y 4 := rfl
  have z5 : msum y 5 = msum y 4 + mdays y 5 := rfl
  have z6 : msum y 6 = msum y 5 + mdays y 6 := rfl
  have z7 : msum y 7 = msum y 6 + mdays y 7 := rfl
  have z8 : msum y 8 = msum y 7 + mdays y 8 := rfl
  have z9 : msum y 9 = msum y 8 + mdays y 9 := rfl
  have z10 : msum y 10 = msum y 9 + mdays y 10 := rfl
  have z11 : msum y 11 = msum y 10 + mdays y 11 := rfl
  have z12 : msum y 12 = msum y 11 + mdays y 12 := rfl
  omega
theorem msum_mono (y : Int) : ∀ {a b : Nat}, a ≤ b → msum y a ≤ msum y b
  | 0, 0, h => Int.le_refl _
  | a + 1, 0, h => absurd h (by omega)
  | a, b + 1, h => by
    by_cases e : a = b + 1
    · subst e; exact Int.le_refl _
    · have := msum_mono y (a := a) (b := b) (by omega)
      have := (mdays_le y (b + 1)).1
      have e2 : msum y (b + 1) = msum y b + mdays y (b + 1) := rfl
      omega
theorem ahead_mono {a : Int} (ha : 0 ≤ a) : ∀ (k : Nat), aheadY a ≤ aheadY (a + k)
  | 0 => by simp
  | k + 1 => by
    have ih := ahead_mono ha k
    have h := ahead_succ (a + k) (by omega)
    have := (lp_le (a + k)).1
    have e : a + ((k + 1 : Nat) : Int) = a + k + 1 := by omega
    rw [e]
    omega
theorem ahead_le {a b : Int} (ha : 0 ≤ a) (h : a ≤ b) : aheadY a ≤ aheadY b := by
  have := ahead_mono ha (b - a).toNat
  rwa [show a + ((b - a).toNat : Int) = b from by omega] at this
/-- A date that is one. -/
structure Date where
  y : Int
  m : Int
  d : Int
def Date.ok (x : Date) : Prop := 1 ≤ x.d ∧ x.d ≤ mdays x.y x.m
theorem Date.ok.all {x : Date} (h : x.ok) : 0 ≤ x.y ∧ x.y ≤ 9999 ∧ 1 ≤ x.m ∧ x.m ≤ 12 ∧ 1 ≤ x.d ∧ x.d ≤ 31 := by
  have h1 := mdays_pos (y := x.y) (m := x.m) (by have := h.1; have := h.2; omega)
  have h2 := mdays_le x.y x.m
  have := h.1
  have := h.2
  omega
/-- Days from the year 0 to it. -/
def dayN (x : Date) : Int := aheadY x.y + msum x.y (x.m - 1).toNat + x.d - 1
theorem day_in {x : Date} (h : x.ok) : msum x.y (x.m - 1).toNat ≤ dayN x - aheadY x.y ∧ dayN x - aheadY x.y < msum x.y x.m.toNat ∧ msum x.y x.m.toNat ≤ 365 + lp x.y := by
  have ha := h.all
  have e : msum x.y x.m.toNat = msum x.y (x.m - 1).toNat + mdays x.y x.m := by
    have : x.m.toNat = (x.m - 1).toNat + 1 := by omega
    rw [this]
    show msum x.y (x.m - 1).toNat + mdays x.y (((x.m - 1).toNat : Int) + 1) = _
    rw [show (((x.m - 1).toNat : Int) + 1) = x.m from by omega]
  have h12 := (msum_tab (y := x.y) ⟨ha.1, ha.2.1⟩).2.2.2.2.2.2.2.2.2.2.2
  have hm := msum_mono x.y (a := x.m.toNat) (b := 12) (by omega)
  have := h.1
  have := h.2
  unfold dayN
  omega
theorem day_year {x : Date} (h : x.ok) : aheadY x.y ≤ dayN x ∧ dayN x < aheadY (x.y + 1) := by
  have ha := h.all
  have h1 := day_in h
  have h2 := ahead_succ x.y ha.1
  have h0 : 0 ≤ msum x.y (x.m - 1).toNat := msum_mono x.y (a := 0) (Nat.zero_le _)
  omega
/-- The order of dates is that of their days. -/
theorem day_lt {x z : Date} (hx : x.ok) (hz : z.ok) (h : x.y < z.y ∨ (x.y = z.y ∧ (x.m < z.m ∨ (x.m = z.m ∧ x.d < z.d)))) : dayN x < dayN z := by
  have ax := hx.all
  have az := hz.all
  rcases h with h | ⟨h, h' | ⟨h', h''⟩⟩
  · have h1 := day_year hx
    have h2 := day_year hz
    have := ahead_le (a := x.y + 1) (b := z.y) (by omega) (by omega)
    omega
  · have h1 := day_in hx
    have h2 := day_in hz
    have := msum_mono x.y (a := x.m.toNat) (b := (z.m - 1).toNat) (by omega)
    rw [← h] at h2
    omega
  · unfold dayN
    rw [h, h']
    omega
theorem day_inj {x z : Date} (hx : x.ok) (hz : z.ok) (h : dayN x = dayN z) : x = z := by
  have n1 := fun q => day_lt hx hz q
  have n2 := fun q => day_lt hz hx q
  have e1 : x.y = z.y := by
    rcases Int.lt_trichotomy x.y z.y with q | q | q
    · have := n1 (.inl q); omega
    · exact q
    · have := n2 (.inl q); omega
  have e2 : x.m = z.m := by
    rcases Int.lt_trichotomy x.m z.m with q | q | q
    · have := n1 (.inr ⟨e1, .inl q⟩); omega
    · exact q
    · have := n2 (.inr ⟨e1.symm, .inl q⟩); omega
  have e3 : x.d = z.d := by
    rcases Int.lt_trichotomy x.d z.d with q | q | q
    · have := n1 (.inr ⟨e1, .inr ⟨e2, q⟩⟩); omega
    · exact q
    · have := n2 (.inr ⟨e1.symm, .inr ⟨e2.symm, q⟩⟩); omega
  cases x
  cases z
  simp_all
theorem ahead_last : aheadY 10000 = 3652425 := by decide
theorem ahead_zero : aheadY 0 = 0 := by decide
theorem day_bound {x : Date} (h : x.ok) : 0 ≤ dayN x ∧ dayN x < 3652425 := by
  have ha := h.all
  have h1 := day_year h
  have h2 := ahead_le (a := 0) (b := x.y) (by omega) ha.1
  have h3 := ahead_le (a := x.y + 1) (b := 10000) (by omega) (by omega)
  rw [ahead_zero] at h2
  rw [ahead_last] at h3
  omega
/-- Each day has a date. -/
theorem year_of (D : Int) (h0 : 0 ≤ D) (k : Nat) : D < aheadY k → ∃ y : Nat, y < k ∧ aheadY y ≤ D ∧ D < aheadY (y + 1) := by
  induction k with
  | zero =>
    intro h
    have : aheadY ((0 : Nat) : Int) = 0 := ahead_zero
    omega
  | succ k ih =>
    intro h
    by_cases hk : D < aheadY k
    · obtain ⟨y, h1, h2⟩ := ih hk
      exact ⟨y, by omega, h2⟩
    · exact ⟨k, by omega, by omega, by rw [Int.natCast_succ] at h; exact h⟩
theorem month_of (y : Int) (R : Int) (h0 : 0 ≤ R) : ∀ (k : Nat), R < msum y k → ∃ m : Nat, m < k ∧ msum y m ≤ R ∧ R < msum y (m + 1)
  | 0, h => by
    have : msum y 0 = 0 := rfl
    omega
  | k + 1, h => by
    by_cases hk : R < msum y k
    · obtain ⟨m, h1, h2⟩ := month_of y R h0 k hk
      exact ⟨m, by omega, h2⟩
    · exact ⟨k, by omega, by omega, h⟩
theorem date_of (D : Int) (h0 : 0 ≤ D) (h1 : D < 3652425) : ∃ x : Date, x.ok ∧ dayN x = D := by
  obtain ⟨y, hy, hy1, hy2⟩ := year_of D h0 10000 (by have : aheadY ((10000 : Nat) : Int) = 3652425 := ahead_last; omega)
  have h2 := ahead_succ y (by omega)
  have h3 := (msum_tab (y := (y : Int)) ⟨by omega, by omega⟩).2.2.2.2.2.2.2.2.2.2.2
  obtain ⟨m, hm, hm1, hm2⟩ := month_of y (D - aheadY y) (by omega) 12 (by omega)
  have e : msum (y : Int) (m + 1) = msum y m + mdays y (m + 1) := rfl
  refine ⟨⟨y, (m : Int) + 1, D - aheadY y - msum y m + 1⟩, ⟨?_, ?_⟩, ?_⟩
  · show 1 ≤ D - aheadY y - msum y m + 1
    omega
  · show D - aheadY y - msum y m + 1 ≤ mdays y ((m : Int) + 1)
    omega
  · show aheadY y + msum y (((m : Int) + 1 - 1)).toNat + (D - aheadY y - msum y m + 1) - 1 = D
    rw [show (((m : Int) + 1 - 1)).toNat = m from by omega]
    omega
/-- A moment that is one. -/
structure Mom where
  x : Date
  h : Int
  i : Int
  s : Int
def Mom.ok (t : Mom) : Prop := t.x.ok ∧ 0 ≤ t.h ∧ t.h ≤ 23 ∧ 0 ≤ t.i ∧ t.i ≤ 59 ∧ 0 ≤ t.s ∧ t.s ≤ 59
def secs (t : Mom) : Int := (dayN t.x - 719528) * 86400 + t.h * 3600 + t.i * 60 + t.s
def tFirst : Int := -62167219200
def tLast : Int := 253402300799
theorem secs_in {t : Mom} (h : t.ok) : tFirst ≤ secs t ∧ secs t ≤ tLast := by
  have h1 := day_bound h.1
  obtain ⟨_, h2⟩ := h
  unfold secs tFirst tLast
  omega
theorem secs_lt {a b : Mom} (ha : a.ok) (hb : b.ok) (h : dayN a.x < dayN b.x ∨ (dayN a.x = dayN b.x ∧ (a.h < b.h ∨ (a.h = b.h ∧ (a.i < b.i ∨ (a.i = b.i ∧ a.s < b.s)))))) : secs a < secs b := by
  obtain ⟨_, h2⟩ := ha
  obtain ⟨_, h3⟩ := hb
  unfold secs
  omega
theorem secs_parts {t : Mom} (h : t.ok) : (secs t + 62167219200) / 86400 = dayN t.x ∧ (secs t + 62167219200) % 86400 / 3600 = t.h ∧ (secs t + 62167219200) % 86400 % 3600 / 60 = t.i ∧ (secs t + 62167219200) % 86400 % 60 = t.s := by
  obtain ⟨_, h2⟩ := h
  unfold secs
  refine ⟨by omega, by omega, by omega, by omega⟩
theorem secs_inj {a b : Mom} (ha : a.ok) (hb : b.ok) (h : secs a = secs b) : a = b := by
  have h1 := secs_parts ha
  have h2 := secs_parts hb
  rw [h] at h1
  have hd := day_inj ha.1 hb.1 (h1.1.symm.trans h2.1)
  cases a
  cases b
  simp only at hd h1 h2
  subst hd
  obtain ⟨_, e1, e2, e3⟩ := h1
  obtain ⟨_, f1, f2, f3⟩ := h2
  simp only [Mom.mk.injEq, true_and]
  exact ⟨e1.symm.trans f1, e2.symm.trans f2, e3.symm.trans f3⟩
theorem mom_of (n : Int) (h0 : tFirst ≤ n) (h1 : n ≤ tLast) : ∃ t : Mom, t.ok ∧ secs t = n := by
  unfold tFirst at h0
  unfold tLast at h1
  obtain ⟨x, hx, hd⟩ := date_of ((n + 62167219200) / 86400) (by omega) (by omega)
  refine ⟨⟨x, (n + 62167219200) % 86400 / 3600, (n + 62167219200) % 86400 % 3600 / 60, (n + 62167219200) % 86400 % 60⟩, ⟨hx, ?_⟩, ?_⟩
  · simp only
    omega
  · unfold secs
    simp only
    rw [hd]
    omega
end Go.Abs.H
namespace Go.Abs.S
attribute [local go_sem] lguard aopO aop nxL aenv toAV tput aLoad aStore vcells aBin aNilI aUn aAlloc aBox aBuild aBSlice afill aConv isIntT aappZ aCap aArr aMM aMake aSlice bnd3 bnd aFldAddr aFld aIdxAddr aIdx aExt aLen aCopy aEq0 bAV aUb aapp aappQ agh acont List.getD_cons_zero List.getD_cons_succ List.set_cons_zero List.set_cons_succ List.getElem?_cons_zero List.getElem?_cons_succ List.length_cons List.length_nil List.map_cons List.map_nil ints_length if_true if_false Bool.false_eq_true true_and and_true eq_self ne_eq not_false_eq_true not_true_eq_false beq_self_eq_true Nat.zero_add Nat.add_zero Nat.mul_one Nat.zero_mul Int.toNat_natCast List.toList_toArray List.all_cons List.all_nil AV.one Value.oneCell' Bool.and_true Bool.true_and forall_const true_implies false_implies implies_true Option.map_some Option.map_none Option.isSome_some Option.isSome_none imp_self rdP_flat rdP_row splice_one ints_set ints_get List.append_nil List.cons_append List.nil_append List.getElem?_toArray List.drop_zero ints_drop ints_take List.take_of_length_le splice_all ints_one Option.some.injEq Option.getD_some List.length_replicate zArr List.map_replicate rep_ints splice_intsR List.length_set List.length_append List.flatten_replicate_singleton rep_slice rep_string rep_bool rep_iface List.replicate_zero if_pos if_neg List.mapM_cons List.mapM_nil Option.pure_def Option.bind_eq_bind Option.bind_some Bool.true_eq_false Bool.not_false Bool.not_true get_concat set_concat
open Go.Proofs
open Go.Abs.H
set_option linter.unusedVariables false
set_option linter.unusedSimpArgs false
set_option maxRecDepth 100000
set_option maxHeartbeats 2000000
theorem leap_p (n : Nat) : PCall Tryd.prog glob 46 [.v (.int .i64 n)] (.v (.bool (leapB n))) := by
  refine PCall.of ctx.nr nrs (NR.v _) ?_
  refine lcall46 (by simp) 0 (Nat.le_refl _) ?_
  unfold lc46
  simp only [List.length_cons, List.length_nil, Nat.reduceAdd, Nat.reduceSub, List.replicate_succ, List.replicate_zero, List.cons_append, List.nil_append]
  have t1 : (n : Int).tmod 4 = ((n % 4 : Nat) : Int) := tmodN n 4
  have t2 : (n : Int).tmod 100 = ((n % 100 : Nat) : Int) := tmodN n 100
  have t3 : (n : Int).tmod 400 = ((n % 400 : Nat) : Int) := tmodN n 400
  by_cases h1 : n % 4 = 0
  · have d1 : ((((n % 4 : Nat) : Int) : Int) == 0) = true := by rw [beq_iff_eq]; omega
    by_cases h2 : n % 100 = 0
    · have d2 : ((((n % 100 : Nat) : Int) : Int) != 0) = false := by rw [bne_eq_false_iff_eq]; omega
      refine go1 (an t1 (an t2 (an t3 (an d1 (an d2 tt))))) tt tt tt ⟨?_⟩
      refine And.intro (by simp) ?_
      simp (disch := first | exact dch | fail) only [go_sem, Nat.reduceAdd, Nat.reduceSub, reduceIte, Nat.reduceEqDiff, Int.reduceToNat, Int.reduceBEq, Int.reduceBNe, aret, aretL, aret1, aenv]
      (repeat (with_reducible refine And.intro acl ?_))
      exact end0 (NR.v _) (by
        unfold leapB
        congr 2
        rw [Bool.eq_iff_iff, beq_iff_eq, decide_eq_true_eq]
        omega)
    · have d2 : ((((n % 100 : Nat) : Int) : Int) != 0) = true := by rw [bne_iff_ne, ne_eq]; omega
      refine go1 (an t1 (an t2 (an t3 (an d1 (an d2 tt))))) tt tt tt ⟨?_⟩
      refine And.intro (by simp) ?_
      simp (disch := first | exact dch | fail) only [go_sem, Nat.reduceAdd, Nat.reduceSub, reduceIte, Nat.reduceEqDiff, Int.reduceToNat, Int.reduceBEq, Int.reduceBNe, aret, aretL, aret1, aenv]
      (repeat (with_reducible refine And.intro acl ?_))
      exact end0 (NR.v _) (by
        unfold leapB
        congr 2
        symm
        rw [decide_eq_true_eq]
        omega)
  · have d1 : ((((n % 4 : Nat) : Int) : Int) == 0) = false := by rw [beq_eq_false_iff_ne, ne_eq]; omega
    refine go1 (an t1 (an t2 (an t3 (an d1 tt)))) tt tt tt ⟨?_⟩
    refine And.intro (by simp) ?_
    simp (disch := first | exact dch | fail) only [go_sem, Nat.reduceAdd, Nat.reduceSub, reduceIte, Nat.reduceEqDiff, Int.reduceToNat, Int.reduceBEq, Int.reduceBNe, aret, aretL, aret1, aenv]
    (repeat (with_reducible refine And.intro acl ?_))
    exact end0 (NR.v _) (by
      unfold leapB
      congr 2
      symm
      rw [decide_eq_false_iff_not]
      omega)
theorem ahead_p (n : Nat) (h : n ≤ 1000000) : PCall Tryd.prog glob 33 [.v (.int .i64 n)] (.v (.int .i64 (aheadY n))) := by
  refine PCall.of ctx.nr nrs (NR.v _) ?_
  refine lcall33 (by simp) 0 (Nat.le_refl _) ?_
  unfold lc33
  simp only [List.length_cons, List.length_nil, Nat.reduceAdd, Nat.reduceSub, List.replicate_succ, List.replicate_zero, List.cons_append, List.nil_append]
  have e1 := i64z ((n : Int) * 365) (by omega)
  have e2 := i64n ((n : Int) + 3) (n + 3) (by omega) (by omega)
  have e3 := i64n ((n : Int) + 99) (n + 99) (by omega) (by omega)
  have e4 := i64n ((n : Int) + 399) (n + 399) (by omega) (by omega)
  have t1 : ((n + 3 : Nat) : Int).tdiv 4 = (((n + 3) / 4 : Nat) : Int) := tdivN _ 4
  have t2 : ((n + 99 : Nat) : Int).tdiv 100 = (((n + 99) / 100 : Nat) : Int) := tdivN _ 100
  have t3 : ((n + 399 : Nat) : Int).tdiv 400 = (((n + 399) / 400 : Nat) : Int) := tdivN _ 400
  have f1 := i64n (((n + 3) / 4 : Nat) : Int) ((n + 3) / 4) rfl (by omega)
  have f2 := i64n (((n + 99) / 100 : Nat) : Int) ((n + 99) / 100) rfl (by omega)
  have f3 := i64n (((n + 399) / 400 : Nat) : Int) ((n + 399) / 400) rfl (by omega)
  have s1 := i64z ((n : Int) * 365 + (((n + 3) / 4 : Nat) : Int)) (by omega)
  have s2 := i64z ((n : Int) * 365 + (((n + 3) / 4 : Nat) : Int) - (((n + 99) / 100 : Nat) : Int)) (by omega)
  have s3 := i64z ((n : Int) * 365 + (((n + 3) / 4 : Nat) : Int) - (((n + 99) / 100 : Nat) : Int) + (((n + 399) / 400 : Nat) : Int)) (by omega)
  refine go1 (an e1 (an e2 (an e3 (an e4 (an t1 (an t2 (an t3 (an f1 (an f2 (an f3 (an s1 (an s2 (an s3 tt))))))))))))) tt tt tt ⟨?_⟩
  refine And.intro (by simp) ?_
  simp (disch := first | exact dch | fail) only [go_sem, Nat.reduceAdd, Nat.reduceSub, reduceIte, Nat.reduceEqDiff, Int.reduceToNat, Int.reduceBEq, Int.reduceBNe, aret, aretL, aret1, aenv]
  (repeat (with_reducible refine And.intro acl ?_))
  exact end0 (NR.v _) (by unfold aheadY; congr 2)
theorem Days_p (y m : Int) (hm : -9223372036854775808 ≤ m ∧ m ≤ 9223372036854775807) : PCall Tryd.prog glob 34 [.v (.int .i64 y), .v (.int .i64 m)] (.v (.int .i64 (mdays y m))) := by
  refine PCall.of ctx.nr nrs (NR.v _) ?_
  refine lcall34 (by simp) 0 (Nat.le_refl _) ?_
  unfold lc34
  simp only [List.length_cons, List.length_nil, Nat.reduceAdd, Nat.reduceSub, List.replicate_succ, List.replicate_zero, List.cons_append, List.nil_append]
  by_cases g : y < 0 ∨ 9999 < y ∨ m < 1 ∨ 12 < m
  · have e : mdays y m = 0 := by unfold mdays; rw [if_pos g]
    rw [e]
    by_cases g1 : y < 0
    · have d1 : decide (y < 0) = true := by rw [decide_eq_true_eq]; omega
      refine gc1 (an d1 tt) tt tt tt ⟨?_⟩
      refine And.intro (by simp) ?_
      simp (disch := first | exact dch | fail) only [go_sem, Nat.reduceAdd, Nat.reduceSub, reduceIte, Nat.reduceEqDiff, Int.reduceToNat, Int.reduceBEq, Int.reduceBNe, aret, aretL, aret1, aenv]
      (repeat (with_reducible refine And.intro acl ?_))
      exact end0 (NR.v _) rfl
    have d1 : decide (y < 0) = false := by rw [decide_eq_false_iff_not]; omega
    by_cases g2 : 9999 < y
    · have d2 : decide (y > 9999) = true := by rw [decide_eq_true_eq]; omega
      refine gc1 (an d1 (an d2 tt)) tt tt tt ⟨?_⟩
      refine And.intro (by simp) ?_
      simp (disch := first | exact dch | fail) only [go_sem, Nat.reduceAdd, Nat.reduceSub, reduceIte, Nat.reduceEqDiff, Int.reduceToNat, Int.reduceBEq, Int.reduceBNe, aret, aretL, aret1, aenv]
      (repeat (with_reducible refine And.intro acl ?_))
      exact end0 (NR.v _) rfl
    have d2 : decide (y > 9999) = false := by rw [decide_eq_false_iff_not]; omega
    by_cases g3 : m < 1
    · have d3 : decide (m < 1) = true := by rw [decide_eq_true_eq]; omega
      refine gc1 (an d1 (an d2 (an d3 tt))) tt tt tt ⟨?_⟩
      refine And.intro (by simp) ?_
      simp (disch := first | exact dch | fail) only [go_sem, Nat.reduceAdd, Nat.reduceSub, reduceIte, Nat.reduceEqDiff, Int.reduceToNat, Int.reduceBEq, Int.reduceBNe, aret, aretL, aret1, aenv]
      (repeat (with_reducible refine And.intro acl ?_))
      exact end0 (NR.v _) rfl
    have d3 : decide (m < 1) = false := by rw [decide_eq_false_iff_not]; omega
    have d4 : decide (m > 12) = true := by rw [decide_eq_true_eq]; omega
    refine gc1 (an d1 (an d2 (an d3 (an d4 tt)))) tt tt tt ⟨?_⟩
    refine And.intro (by simp) ?_
    simp (disch := first | exact dch | fail) only [go_sem, Nat.reduceAdd, Nat.reduceSub, reduceIte, Nat.reduceEqDiff, Int.reduceToNat, Int.reduceBEq, Int.reduceBNe, aret, aretL, aret1, aenv]
    (repeat (with_reducible refine And.intro acl ?_))
    exact end0 (NR.v _) rfl
  obtain ⟨n, rfl⟩ := Int.eq_ofNat_of_zero_le (show 0 ≤ y by omega)
  have d1 : decide ((n : Int) < 0) = false := by rw [decide_eq_false_iff_not]; omega
  have d2 : decide ((n : Int) > 9999) = false := by rw [decide_eq_false_iff_not]; omega
  have d3 : decide (m < 1) = false := by rw [decide_eq_false_iff_not]; omega
  have d4 : decide (m > 12) = false := by rw [decide_eq_false_iff_not]; omega
  by_cases g2 : m = 2
  · subst g2
    have lpp := leap_p n
    have b2 : ((2 : Int) == 2) = true := by decide
    have i1 : IntKind.i64.wrap ((2 : Int) - 1) = 1 := by decide
    have i2 : decide ((2 : Int) < 1) = false := by decide
    have i3 : decide ((2 : Int) > 12) = false := by decide
    cases hl : leapB n
    · rw [hl] at lpp
      have e : mdays n 2 = 28 := by unfold mdays; rw [if_neg (by omega), if_pos rfl, hl]; rfl
      rw [e]
      repeat (first
        | (with_reducible refine lops_step fun K hK => ?_; simp (disch := first | exact dch | fail) only [go_sem, Nat.reduceAdd, Nat.reduceSub, reduceIte, Nat.reduceEqDiff, Int.reduceToNat, Int.reduceBEq, Int.reduceBNe, d1, d2, i2, i3, b2, i1, lay_escutcheon_hour_months]; (try (first | (refine And.intro (fun _ => ?_) (fun h => absurd h (by decide))) | (refine And.intro (fun h => absurd h (by decide)) (fun _ => ?_)))); (repeat (with_reducible refine And.intro acl ?_)); (first | (refine hK _ _ ?_) | (refine ⟨_, rfl, hK _ _ ?_⟩) | (refine Or.inl (hK _ _ ?_)) | (refine ⟨_, _, Or.inl ((lpp).go _), (by first | exact ⟨[], (List.append_nil _).symm⟩ | exact ⟨_, rfl⟩), hK _ _ ?_⟩) | (refine ⟨_, _, Or.inl ((lpp).go _), hK _ _ ?_⟩) | (refine ⟨_, _, Or.inl ((lpp).go _).weakQ, hK _ _ ?_⟩)); clear hK K)
        | (with_reducible refine lops_nil ?_)
        | (with_reducible first | refine lavc_reg ?_ | refine lavc_seq ?_ | refine lavc_block ?_ | refine lavc_skip ?_ | refine lavc_exit ?_ | refine lavc_ret ?_ | refine lavcR_round ?_)
        | (refine lavc_cond rfl (fun _ => ?_) (fun hc => absurd hc (by decide)))
        | (refine lavc_cond rfl (fun hc => absurd hc (by decide)) (fun _ => ?_))
        | (simp only [↓reduceIte, Nat.reduceEqDiff, reduceCtorEq]))
      refine And.intro (by simp) ?_
      simp (disch := first | exact dch | fail) only [go_sem, Nat.reduceAdd, Nat.reduceSub, reduceIte, Nat.reduceEqDiff, Int.reduceToNat, Int.reduceBEq, Int.reduceBNe, aret, aretL, aret1, aenv]
      (repeat (with_reducible refine And.intro acl ?_))
      exact end0 (NR.v _) rfl
    · rw [hl] at lpp
      have e : mdays n 2 = 29 := by unfold mdays; rw [if_neg (by omega), if_pos rfl, hl]; rfl
      rw [e]
      refine gc1 (an d1 (an d2 (an i2 (an i3 (an b2 tt))))) (an (lpp).go tt) tt tt ⟨?_⟩
      refine And.intro (by simp) ?_
      simp (disch := first | exact dch | fail) only [go_sem, Nat.reduceAdd, Nat.reduceSub, reduceIte, Nat.reduceEqDiff, Int.reduceToNat, Int.reduceBEq, Int.reduceBNe, aret, aretL, aret1, aenv]
      (repeat (with_reducible refine And.intro acl ?_))
      exact end0 (NR.v _) rfl
  have b2 : ((m : Int) == 2) = false := by rw [beq_eq_false_iff_ne, ne_eq]; omega
  obtain ⟨k, hk, hk12⟩ : ∃ k : Nat, m = (k : Int) + 1 ∧ k < 12 := ⟨(m - 1).toNat, by omega, by omega⟩
  have i1 := i64n (m - 1) k (by omega) (by omega)
  have hr : lay_escutcheon_hour_months.getD k 0 = mdays n m := by
    have hne : k ≠ 1 := by omega
    subst hk
    unfold mdays
    rw [if_neg (by omega), if_neg g2]
    have : k = 0 ∨ k = 2 ∨ k = 3 ∨ k = 4 ∨ k = 5 ∨ k = 6 ∨ k = 7 ∨ k = 8 ∨ k = 9 ∨ k = 10 ∨ k = 11 := by omega
    rcases this with h | h | h | h | h | h | h | h | h | h | h <;> subst h <;> rfl
  have hlen : lay_escutcheon_hour_months.length = 12 := rfl
  refine gc1 (an d1 (an d2 (an d3 (an d4 (an b2 (an i1 (an hlen (an hr tt)))))))) tt tt tt ⟨?_⟩
  refine And.intro (by simp) ?_
  simp (disch := first | exact dch | fail) only [go_sem, Nat.reduceAdd, Nat.reduceSub, reduceIte, Nat.reduceEqDiff, Int.reduceToNat, Int.reduceBEq, Int.reduceBNe, aret, aretL, aret1, aenv]
  (repeat (with_reducible refine And.intro acl ?_))
  exact end0 (NR.v _) rfl
end Go.Abs.S
