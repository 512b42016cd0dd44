/- chacha's words of bytes, and bytes of words. -/
import Derived.Test.YtajkjhioihdncaaChaA
import Derived.Test.YtajkjhioihdncaaAbsCat
import Derived.Test.YtajkjhioihdncaaAbsEight
namespace Go.Abs.S
attribute [local go_sem] lguard aopO aop nxL aenv toAV tput aLoad aStore vcells aBin aUn aAlloc aBox aBuild aBSlice afill aConv isIntT aappZ aCap aArr aMM aMake aSlice bnd3 bnd aFldAddr aFld aIdxAddr aIdx aExt aLen aCopy aapp aappQ agh acont List.getD_cons_zero List.getD_cons_succ List.set_cons_zero List.set_cons_succ List.getElem?_cons_zero List.getElem?_cons_succ List.length_cons List.length_nil List.map_cons List.map_nil ints_length if_true if_false Bool.false_eq_true true_and and_true eq_self ne_eq not_false_eq_true not_true_eq_false beq_self_eq_true Nat.zero_add Nat.add_zero Nat.mul_one Nat.zero_mul Int.toNat_natCast List.toList_toArray List.all_cons List.all_nil AV.one Value.oneCell' Bool.and_true Bool.true_and forall_const true_implies false_implies implies_true Option.map_some Option.map_none Option.isSome_some Option.isSome_none imp_self rdP_flat rdP_row splice_one ints_set ints_get List.append_nil List.cons_append List.nil_append List.getElem?_toArray List.drop_zero ints_drop ints_take List.take_of_length_le splice_all ints_one Option.some.injEq Option.getD_some List.length_replicate zArr List.map_replicate rep_ints splice_intsR List.length_set List.length_append List.flatten_replicate_singleton rep_slice rep_string rep_bool rep_iface List.replicate_zero if_pos if_neg List.mapM_cons List.mapM_nil Option.pure_def Option.bind_eq_bind Option.bind_some Bool.true_eq_false Bool.not_false Bool.not_true get_concat set_concat
open Go.Proofs
open Go.Proofs.Ytajkjhioihdncaa.Ext (W32 U32 B8 four pw wordsOf fromN fromN_length fromN_get fromN_step fromN_zero pw_now)
set_option linter.unusedVariables false
set_option linter.unusedSimpArgs false
set_option maxRecDepth 100000
theorem four_p (x : Int) (h : U32 x) : PCall Try.prog glob 24 [.v (.int .i64 x)] (.vsl 4 (ints .u8 (four x)) (some 4)) := by
  obtain ⟨h0, h1⟩ := h
  refine PCall.of ctx.nr (by (repeat (refine List.forall_mem_cons.2 (And.intro (by first | exact NR.v _ | exact NR.agg (NR.ints _ _) | exact NR.vsl (NR.ints _ _) | exact NR.vptr (NR.ints _ _) | assumption) ?_))); exact fun _ h => absurd h List.not_mem_nil) (NR.vsl (NR.ints _ _)) ?_
  refine lcall24 (by simp) 0 (Nat.le_refl _) ?_
  unfold lc24
  simp only [List.length_cons, List.length_nil, Nat.reduceAdd, Nat.reduceSub, List.replicate_succ, List.replicate_zero, List.cons_append, List.nil_append]
  have e0 : IntKind.u8.wrap (x.tmod 256) = x % 256 := by rw [Int.tmod_eq_emod_of_nonneg h0, IntKind.wrap_u8]; omega
  have e1 : IntKind.i64.wrap (x.tdiv 256) = x / 256 := by rw [Int.tdiv_eq_ediv_of_nonneg h0, IntKind.wrap_i64]; omega
  have e2 : IntKind.i64.wrap (x.tdiv 65536) = x / 65536 := by rw [Int.tdiv_eq_ediv_of_nonneg h0, IntKind.wrap_i64]; omega
  have e3 : IntKind.i64.wrap (x.tdiv 16777216) = x / 16777216 := by rw [Int.tdiv_eq_ediv_of_nonneg h0, IntKind.wrap_i64]; omega
  have e4 : IntKind.u8.wrap ((x / 256).tmod 256) = x / 256 % 256 := by rw [Int.tmod_eq_emod_of_nonneg (by omega), IntKind.wrap_u8]; omega
  have e5 : IntKind.u8.wrap ((x / 65536).tmod 256) = x / 65536 % 256 := by rw [Int.tmod_eq_emod_of_nonneg (by omega), IntKind.wrap_u8]; omega
  have e6 : IntKind.u8.wrap (x / 16777216) = x / 16777216 := by rw [IntKind.wrap_u8]; omega
  repeat (first
    | (with_reducible refine lops_step fun K hK => ?_; simp (disch := first | omega | (simp only [go_sem, isRow, isFlat, Option.isSome_some]; done) | assumption | (simp only [ints_length, List.length_replicate, List.length_set, List.length_append, List.length_take, List.length_drop, List.length_cons, List.length_nil] <;> omega) | fail) only [go_sem, Nat.reduceAdd, Nat.reduceSub, reduceIte, Nat.reduceEqDiff, Int.reduceToNat, e0, e1, e2, e3, e4, e5, e6]; (repeat (with_reducible refine And.intro (by first | omega | rfl | assumption | decide) ?_)); (first | (refine hK _ _ ?_) | (refine ⟨_, rfl, hK _ _ ?_⟩) | (refine Or.inl (hK _ _ ?_))); clear hK K)
    | (with_reducible refine lops_nil ?_)
    | (with_reducible refine lavc_reg ?_)
    | (with_reducible refine lavc_seq ?_)
    | (with_reducible refine lavc_block ?_)
    | (with_reducible refine lavc_skip ?_)
    | (with_reducible refine lavc_exit ?_)
    | (with_reducible refine lavc_ret ?_)
    | (simp only [↓reduceIte, Nat.reduceEqDiff, reduceCtorEq]))
  refine And.intro (by simp) ?_
  simp (disch := first | omega | (simp only [go_sem, isRow, isFlat, Option.isSome_some]; done) | assumption | (simp only [ints_length, List.length_replicate, List.length_set, List.length_append, List.length_take, List.length_drop, List.length_cons, List.length_nil] <;> omega) | fail) only [go_sem, Nat.reduceAdd, Nat.reduceSub, reduceIte, Nat.reduceEqDiff, Int.reduceToNat, aret, aretL, aret1, aenv]
  (repeat (with_reducible refine And.intro (by first | omega | rfl | assumption | decide) ?_))
  exact end0 (NR.vsl (NR.ints _ _)) rfl
theorem or_comm32 (x y : Int) (h0 : 0 ≤ x) (h1 : x < 4294967296) (h2 : 0 ≤ y) (h3 : y < 4294967296) : bits .or .u32 x y = bits .or .u32 y x := by
  rw [u32_or x y h0 h1 h2 h3, u32_or y x h2 h3 h0 h1, Nat.or_comm]
theorem or_low {x c : Int} {r : Nat} (hr : r < 4) (h0 : 0 ≤ x) (h1 : x < 2 ^ (8 * r)) (c0 : 0 ≤ c) (c1 : c ≤ 255) : ibits .or .u32 x (c * 2 ^ (8 * r)) = x + c * 2 ^ (8 * r) := by
  rw [ibits_or]
  rcases (by omega : r = 0 ∨ r = 1 ∨ r = 2 ∨ r = 3) with rfl | rfl | rfl | rfl
  all_goals simp only [Nat.reduceMul, Int.reducePow, Nat.mul_zero] at *
  · obtain rfl : x = 0 := by omega
    rw [u32_or 0 _ (by omega) (by omega) (by omega) (by omega)]
    simp
    omega
  · rw [or_comm32 x _ (by omega) (by omega) (by omega) (by omega), or32 (c * 256) x 8 (by omega) (by omega) (by omega) h0 (by omega) (by omega)]
    omega
  · rw [or_comm32 x _ (by omega) (by omega) (by omega) (by omega), or32 (c * 65536) x 16 (by omega) (by omega) (by omega) h0 (by omega) (by omega)]
    omega
  · rw [or_comm32 x _ (by omega) (by omega) (by omega) (by omega), or32 (c * 16777216) x 24 (by omega) (by omega) (by omega) h0 (by omega) (by omega)]
    omega
theorem shl_byte (c : Int) (r : Nat) (hr : r < 4) (c0 : 0 ≤ c) (c1 : c ≤ 255) : shlI .u32 c ((8 * r : Nat) : Int) = c * 2 ^ (8 * r) := by
  rw [shlI_le _ _ _ (by rw [Int.toNat_natCast]; show 8 * r ≤ 32; omega), Int.toNat_natCast, IntKind.wrap_u32]
  rcases (by omega : r = 0 ∨ r = 1 ∨ r = 2 ∨ r = 3) with rfl | rfl | rfl | rfl
  all_goals (simp only [Nat.reduceMul, Int.reducePow, Nat.mul_zero] at *; try omega)
theorem from_p (xs : List AV) (cx : Option Nat) (rs : List (List Int)) (hr : Rws xs rs) (T : List Int) (hT : rs.flatten = T) (hl : T.length = 64) (hb : B8 T) (h2 : rs.length ≤ 70368744177664) :
    PCall Try.prog glob 16 [.vsl rs.length xs cx] (.agg (ints .u32 (wordsOf T))) := by
  refine PCall.of ctx.nr (by intro a ha; rw [List.mem_singleton] at ha; subst ha; exact NR.vsl hr.nr) (NR.agg (NR.ints _ _)) ?_
  refine lcall16 (by simp) 0 (Nat.le_refl _) ?_
  unfold lc16
  simp only [List.length_cons, List.length_nil, Nat.reduceAdd, Nat.reduceSub, List.replicate_succ, List.replicate_zero, List.cons_append, List.nil_append]
  have c := concat_p xs cx rs hr T hT (by omega) h2
  repeat (first
    | (with_reducible refine lops_step fun K hK => ?_; simp (disch := first | omega | (simp only [go_sem, isRow, isFlat, Option.isSome_some]; done) | assumption | (simp only [ints_length, List.length_replicate, List.length_set, List.length_append, List.length_take, List.length_drop, List.length_cons, List.length_nil] <;> omega) | fail) only [go_sem, Nat.reduceAdd, Nat.reduceSub, reduceIte, Nat.reduceEqDiff, Int.reduceToNat]; (repeat (with_reducible refine And.intro (by first | omega | rfl | assumption | decide) ?_)); (first | (refine hK _ _ ?_) | (refine ⟨_, rfl, hK _ _ ?_⟩) | (refine Or.inl (hK _ _ ?_)) | (refine ⟨_, _, c.go _, (by first | exact ⟨[], (List.append_nil _).symm⟩ | exact ⟨_, rfl⟩), hK _ _ ?_⟩) | (refine ⟨_, _, c.go _, hK _ _ ?_⟩) | (refine ⟨_, _, (c.go _).weakQ, hK _ _ ?_⟩) | (refine ⟨_, _, (c.go _).weakQ, (by first | exact ⟨[], (List.append_nil _).symm⟩ | exact ⟨_, rfl⟩), hK _ _ ?_⟩) | (refine ⟨_, _, (c.go _).weakQ, hK _ _ ?_⟩) | (refine ⟨_, _, ((c.go _).weakQ).weakQ, hK _ _ ?_⟩)); clear hK K)
    | (with_reducible refine lops_nil ?_)
    | (with_reducible refine lavc_reg ?_)
    | (with_reducible refine lavc_seq ?_)
    | (with_reducible refine lavc_block ?_)
    | (with_reducible refine lavc_skip ?_)
    | (with_reducible refine lavc_exit ?_)
    | (with_reducible refine lavc_ret ?_)
    | (simp only [↓reduceIte, Nat.reduceEqDiff, reduceCtorEq]))
  refine lavc_loopM ms16_0 (fun n (k : Nat) => n + k = 64) (fun k => [(9, .v (.int .i64 k))]) (fun k => [⟨ints .u32 (List.replicate 16 0), 0, true, 47⟩, ⟨ints .u32 (fromN T k), 0, true, 47⟩]) 64 0 rfl ?_ (by rw [fromN_zero]) ?_
  · simp only [ms16_0, putAll, blank, List.foldl_cons, List.foldl_nil, List.set_cons_succ, List.set_cons_zero, List.cons_append, List.nil_append, ALe, true_or, or_true, and_true, true_and, eq_self, reduceCtorEq, false_or]
    rfl
  intro n k hk
  simp only [ms16_0, putAll, blank, List.foldl_cons, List.foldl_nil, List.set_cons_succ, List.set_cons_zero, List.cons_append, List.nil_append]
  have hfl := fromN_length T k
  repeat (first
    | (with_reducible refine lops_step fun K hK => ?_; simp (disch := first | omega | (simp only [go_sem, isRow, isFlat, Option.isSome_some]; done) | assumption | (simp only [ints_length, List.length_replicate, List.length_set, List.length_append, List.length_take, List.length_drop, List.length_cons, List.length_nil] <;> omega) | fail) only [go_sem, Nat.reduceAdd, Nat.reduceSub, reduceIte, Nat.reduceEqDiff, Int.reduceToNat]; (repeat (with_reducible refine And.intro (by first | omega | rfl | assumption | decide) ?_)); (first | (refine hK _ _ ?_) | (refine ⟨_, rfl, hK _ _ ?_⟩) | (refine Or.inl (hK _ _ ?_))); clear hK K)
    | (with_reducible refine lops_nil ?_)
    | (with_reducible refine lavc_reg ?_)
    | (with_reducible refine lavc_seq ?_)
    | (with_reducible refine lavc_block ?_)
    | (with_reducible refine lavc_skip ?_)
    | (with_reducible refine lavc_exit ?_)
    | (with_reducible refine lavc_ret ?_)
    | (simp only [↓reduceIte, Nat.reduceEqDiff, reduceCtorEq]))
  refine lavc_cond rfl (fun hc => ?_) (fun hc => ?_) <;> try simp only [decide_eq_true_eq, decide_eq_false_iff_not, Int.not_lt, Int.not_le, beq_iff_eq, bne_iff_ne, bne_eq_false_iff_eq, beq_eq_false_iff_ne, ne_eq, Bool.not_eq_true', Bool.not_eq_false'] at hc
  · obtain ⟨q, r, hr4, rfl⟩ : ∃ q r, r < 4 ∧ k = 4 * q + r := ⟨k / 4, k % 4, Nat.mod_lt _ (by decide), by omega⟩
    have hq : q < 16 := by omega
    have hcb := hb.get (4 * q + r)
    obtain ⟨w0, w1, _⟩ := pw_now hb q r hr4
    have hst := fromN_step hb q r hr4 hq
    have e1 : IntKind.i64.wrap (((4 * q + r : Nat) : Int).tdiv 4) = ((q : Nat) : Int) := i64n _ _ (by rw [show (((4 * q + r : Nat) : Int).tdiv 4) = (((4 * q + r) / 4 : Nat) : Int) from tdivN _ 4]; try omega) (by omega)
    have e2 : ((4 * q + r : Nat) : Int).tmod 4 = ((r : Nat) : Int) := by rw [show (((4 * q + r : Nat) : Int).tmod 4) = (((4 * q + r) % 4 : Nat) : Int) from tmodN _ 4]; try omega
    have e3 := i64n (8 * ((r : Nat) : Int)) (8 * r) (by omega) (by omega)
    have e4 : IntKind.u32.wrap (T.getD (4 * q + r) 0) = T.getD (4 * q + r) 0 := by rw [IntKind.wrap_u32]; omega
    have e5 := shl_byte (T.getD (4 * q + r) 0) r hr4 hcb.1 hcb.2
    have e6 : (fromN T (4 * q + r)).getD q 0 = pw T (4 * q + r) q := fromN_get T _ q hq
    have e7 := or_low hr4 w0 w1 hcb.1 hcb.2
    have e8 := i64n (((4 * q + r : Nat) : Int) + 1) (4 * q + r + 1) (by omega) (by omega)
    repeat (first
      | (with_reducible refine lops_step fun K hK => ?_; simp (disch := first | omega | (simp only [go_sem, isRow, isFlat, Option.isSome_some]; done) | assumption | (simp only [ints_length, List.length_replicate, List.length_set, List.length_append, List.length_take, List.length_drop, List.length_cons, List.length_nil] <;> omega) | fail) only [go_sem, Nat.reduceAdd, Nat.reduceSub, reduceIte, Nat.reduceEqDiff, Int.reduceToNat, e1, e2, e3, e4, e5, e6, e7, e8, ← hst]; (repeat (with_reducible refine And.intro (by first | omega | rfl | assumption | decide) ?_)); (first | (refine hK _ _ ?_) | (refine ⟨_, rfl, hK _ _ ?_⟩) | (refine Or.inl (hK _ _ ?_))); clear hK K)
      | (with_reducible refine lops_nil ?_)
      | (with_reducible refine lavc_reg ?_)
      | (with_reducible refine lavc_seq ?_)
      | (with_reducible refine lavc_block ?_)
      | (with_reducible refine lavc_skip ?_)
      | (with_reducible refine lavc_exit ?_)
      | (with_reducible refine lavc_ret ?_)
      | (simp only [↓reduceIte, Nat.reduceEqDiff, reduceCtorEq]))
    refine ⟨n - 1, 4 * q + r + 1, by omega, by omega, ?_, (by first | rfl | trivial)⟩
    simp only [ms16_0, putAll, blank, List.foldl_cons, List.foldl_nil, List.set_cons_succ, List.set_cons_zero, List.cons_append, List.nil_append, ALe, true_or, or_true, and_true, true_and, eq_self, reduceCtorEq, false_or]
  · obtain rfl : k = 64 := by omega
    repeat (first
      | (with_reducible refine lops_step fun K hK => ?_; simp (disch := first | omega | (simp only [go_sem, isRow, isFlat, Option.isSome_some]; done) | assumption | (simp only [ints_length, List.length_replicate, List.length_set, List.length_append, List.length_take, List.length_drop, List.length_cons, List.length_nil] <;> omega) | fail) only [go_sem, Nat.reduceAdd, Nat.reduceSub, reduceIte, Nat.reduceEqDiff, Int.reduceToNat]; (repeat (with_reducible refine And.intro (by first | omega | rfl | assumption | decide) ?_)); (first | (refine hK _ _ ?_) | (refine ⟨_, rfl, hK _ _ ?_⟩) | (refine Or.inl (hK _ _ ?_))); clear hK K)
      | (with_reducible refine lops_nil ?_)
      | (with_reducible refine lavc_reg ?_)
      | (with_reducible refine lavc_seq ?_)
      | (with_reducible refine lavc_block ?_)
      | (with_reducible refine lavc_skip ?_)
      | (with_reducible refine lavc_exit ?_)
      | (with_reducible refine lavc_ret ?_)
      | (simp only [↓reduceIte, Nat.reduceEqDiff, reduceCtorEq]))
    refine And.intro (by simp) ?_
    simp (disch := first | omega | (simp only [go_sem, isRow, isFlat, Option.isSome_some]; done) | assumption | (simp only [ints_length, List.length_replicate, List.length_set, List.length_append, List.length_take, List.length_drop, List.length_cons, List.length_nil] <;> omega) | fail) only [go_sem, Nat.reduceAdd, Nat.reduceSub, reduceIte, Nat.reduceEqDiff, Int.reduceToNat, aret, aretL, aret1, aenv]
    (repeat (with_reducible refine And.intro (by first | omega | rfl | assumption | decide) ?_))
    exact end0 (NR.agg (NR.ints _ _)) rfl
/-- The first k words of bytes. -/
def wN (b : List Int) (k : Nat) : List Int := (List.range 16).map fun j => if j < k then pw b 64 j else 0
theorem wN_zero (b : List Int) : List.replicate 16 0 = wN b 0 := rfl
theorem wN_all (b : List Int) : wN b 16 = wordsOf b := by
  apply List.ext_getElem
  · simp [wN, wordsOf, fromN]
  · intro j h1 h2
    simp only [wN, List.length_map, List.length_range] at h1
    simp only [wN, wordsOf, fromN, List.getElem_map, List.getElem_range, if_pos h1]
theorem wN_length (b : List Int) (k : Nat) : (wN b k).length = 16 := by simp [wN]
theorem wN_step (b : List Int) (k : Nat) (hk : k < 16) : (wN b k).set k (pw b 64 k) = wN b (k + 1) := by
  apply List.ext_getElem
  · simp [wN]
  · intro j h1 h2
    rw [List.getElem_set]
    simp only [wN, List.getElem_map, List.getElem_range]
    split
    · rename_i h
      subst h
      rw [if_pos (by omega)]
    · rename_i h
      by_cases h3 : j < k
      · rw [if_pos h3, if_pos (by omega)]
      · rw [if_neg h3, if_neg (by omega)]
theorem Words_p (b : List Int) (cx : Option Nat) (n : Nat) (hn : b.length = n) (hl : 64 ≤ n) (hb : B8 b) : PCall Try.prog glob 27 [.vsl n (ints .u8 b) cx] (.agg (ints .i64 (wordsOf b))) := by
  subst hn
  refine PCall.of ctx.nr (by (repeat (refine List.forall_mem_cons.2 (And.intro (by first | exact NR.v _ | exact NR.agg (NR.ints _ _) | exact NR.vsl (NR.ints _ _) | exact NR.vptr (NR.ints _ _) | assumption) ?_))); exact fun _ h => absurd h List.not_mem_nil) (NR.agg (NR.ints _ _)) ?_
  refine lcall27 (by simp) 0 (Nat.le_refl _) ?_
  unfold lc27
  simp only [List.length_cons, List.length_nil, Nat.reduceAdd, Nat.reduceSub, List.replicate_succ, List.replicate_zero, List.cons_append, List.nil_append]
  repeat (first
    | (with_reducible refine lops_step fun K hK => ?_; simp (disch := first | omega | (simp only [go_sem, isRow, isFlat, Option.isSome_some]; done) | assumption | (simp only [ints_length, List.length_replicate, List.length_set, List.length_append, List.length_take, List.length_drop, List.length_cons, List.length_nil] <;> omega) | fail) only [go_sem, Nat.reduceAdd, Nat.reduceSub, reduceIte, Nat.reduceEqDiff, Int.reduceToNat]; (repeat (with_reducible refine And.intro (by first | omega | rfl | assumption | decide) ?_)); (first | (refine hK _ _ ?_) | (refine ⟨_, rfl, hK _ _ ?_⟩) | (refine Or.inl (hK _ _ ?_))); clear hK K)
    | (with_reducible refine lops_nil ?_)
    | (with_reducible refine lavc_reg ?_)
    | (with_reducible refine lavc_seq ?_)
    | (with_reducible refine lavc_block ?_)
    | (with_reducible refine lavc_skip ?_)
    | (with_reducible refine lavc_exit ?_)
    | (with_reducible refine lavc_ret ?_)
    | (simp only [↓reduceIte, Nat.reduceEqDiff, reduceCtorEq]))
  refine lavc_loopM ms27_0 (fun n (k : Nat) => n + k = 16) (fun k => [(6, .v (.int .i64 k))]) (fun k => [⟨ints .i64 (List.replicate 16 0), 0, true, 55⟩, ⟨ints .i64 (wN b k), 0, true, 55⟩]) 16 0 rfl ?_ rfl ?_
  · simp only [ms27_0, putAll, blank, List.foldl_cons, List.foldl_nil, List.set_cons_succ, List.set_cons_zero, List.cons_append, List.nil_append, ALe, true_or, or_true, and_true, true_and, eq_self, reduceCtorEq, false_or]
    rfl
  intro n k hk
  simp only [ms27_0, putAll, blank, List.foldl_cons, List.foldl_nil, List.set_cons_succ, List.set_cons_zero, List.cons_append, List.nil_append]
  have hwl := wN_length b k
  repeat (first
    | (with_reducible refine lops_step fun K hK => ?_; simp (disch := first | omega | (simp only [go_sem, isRow, isFlat, Option.isSome_some]; done) | assumption | (simp only [ints_length, List.length_replicate, List.length_set, List.length_append, List.length_take, List.length_drop, List.length_cons, List.length_nil] <;> omega) | fail) only [go_sem, Nat.reduceAdd, Nat.reduceSub, reduceIte, Nat.reduceEqDiff, Int.reduceToNat]; (repeat (with_reducible refine And.intro (by first | omega | rfl | assumption | decide) ?_)); (first | (refine hK _ _ ?_) | (refine ⟨_, rfl, hK _ _ ?_⟩) | (refine Or.inl (hK _ _ ?_))); clear hK K)
    | (with_reducible refine lops_nil ?_)
    | (with_reducible refine lavc_reg ?_)
    | (with_reducible refine lavc_seq ?_)
    | (with_reducible refine lavc_block ?_)
    | (with_reducible refine lavc_skip ?_)
    | (with_reducible refine lavc_exit ?_)
    | (with_reducible refine lavc_ret ?_)
    | (simp only [↓reduceIte, Nat.reduceEqDiff, reduceCtorEq]))
  refine lavc_cond rfl (fun hc => ?_) (fun hc => ?_) <;> try simp only [decide_eq_true_eq, decide_eq_false_iff_not, Int.not_lt, Int.not_le, beq_iff_eq, bne_iff_ne, bne_eq_false_iff_eq, beq_eq_false_iff_ne, ne_eq, Bool.not_eq_true', Bool.not_eq_false'] at hc
  · have b0 := hb.get (4 * k)
    have b1 := hb.get (4 * k + 1)
    have b2 := hb.get (4 * k + 2)
    have b3 := hb.get (4 * k + 3)
    have e0 := i64n (4 * (k : Int)) (4 * k) (by omega) (by omega)
    have e1 := i64n (((4 * k : Nat) : Int) + 1) (4 * k + 1) (by omega) (by omega)
    have e2 := i64n (((4 * k : Nat) : Int) + 2) (4 * k + 2) (by omega) (by omega)
    have e3 := i64n (((4 * k : Nat) : Int) + 3) (4 * k + 3) (by omega) (by omega)
    have f0 := i64z (b.getD (4 * k) 0) (by omega)
    have f1 := i64z (b.getD (4 * k + 1) 0) (by omega)
    have f2 := i64z (b.getD (4 * k + 2) 0) (by omega)
    have f3 := i64z (b.getD (4 * k + 3) 0) (by omega)
    have g1 := i64z (256 * b.getD (4 * k + 1) 0) (by omega)
    have g2 := i64z (65536 * b.getD (4 * k + 2) 0) (by omega)
    have g3 := i64z (16777216 * b.getD (4 * k + 3) 0) (by omega)
    have g4 := i64z (b.getD (4 * k) 0 + 256 * b.getD (4 * k + 1) 0) (by omega)
    have g5 := i64z (b.getD (4 * k) 0 + 256 * b.getD (4 * k + 1) 0 + 65536 * b.getD (4 * k + 2) 0) (by omega)
    have g6 := i64z (b.getD (4 * k) 0 + 256 * b.getD (4 * k + 1) 0 + 65536 * b.getD (4 * k + 2) 0 + 16777216 * b.getD (4 * k + 3) 0) (by omega)
    have hpw : b.getD (4 * k) 0 + 256 * b.getD (4 * k + 1) 0 + 65536 * b.getD (4 * k + 2) 0 + 16777216 * b.getD (4 * k + 3) 0 = pw b 64 k := by
      simp only [pw, Ytajkjhioihdncaa.Ext.byN, if_pos (show 4 * k < 64 by omega), if_pos (show 4 * k + 1 < 64 by omega), if_pos (show 4 * k + 2 < 64 by omega), if_pos (show 4 * k + 3 < 64 by omega)]
    rw [hpw] at g6
    have hst := wN_step b k (by omega)
    have e8 := i64n ((k : Int) + 1) (k + 1) (by omega) (by omega)
    repeat (first
      | (with_reducible refine lops_step fun K hK => ?_; simp (disch := first | omega | (simp only [go_sem, isRow, isFlat, Option.isSome_some]; done) | assumption | (simp only [ints_length, List.length_replicate, List.length_set, List.length_append, List.length_take, List.length_drop, List.length_cons, List.length_nil] <;> omega) | fail) only [go_sem, Nat.reduceAdd, Nat.reduceSub, reduceIte, Nat.reduceEqDiff, Int.reduceToNat, e0, e1, e2, e3, f0, f1, f2, f3, g1, g2, g3, g4, g5, hpw, g6, hst, e8]; (repeat (with_reducible refine And.intro (by first | omega | rfl | assumption | decide) ?_)); (first | (refine hK _ _ ?_) | (refine ⟨_, rfl, hK _ _ ?_⟩) | (refine Or.inl (hK _ _ ?_))); clear hK K)
      | (with_reducible refine lops_nil ?_)
      | (with_reducible refine lavc_reg ?_)
      | (with_reducible refine lavc_seq ?_)
      | (with_reducible refine lavc_block ?_)
      | (with_reducible refine lavc_skip ?_)
      | (with_reducible refine lavc_exit ?_)
      | (with_reducible refine lavc_ret ?_)
      | (simp only [↓reduceIte, Nat.reduceEqDiff, reduceCtorEq]))
    refine ⟨n - 1, k + 1, by omega, by omega, ?_, (by first | rfl | trivial)⟩
    simp only [ms27_0, putAll, blank, List.foldl_cons, List.foldl_nil, List.set_cons_succ, List.set_cons_zero, List.cons_append, List.nil_append, ALe, true_or, or_true, and_true, true_and, eq_self, reduceCtorEq, false_or]
  · obtain rfl : k = 16 := by omega
    repeat (first
      | (with_reducible refine lops_step fun K hK => ?_; simp (disch := first | omega | (simp only [go_sem, isRow, isFlat, Option.isSome_some]; done) | assumption | (simp only [ints_length, List.length_replicate, List.length_set, List.length_append, List.length_take, List.length_drop, List.length_cons, List.length_nil] <;> omega) | fail) only [go_sem, Nat.reduceAdd, Nat.reduceSub, reduceIte, Nat.reduceEqDiff, Int.reduceToNat]; (repeat (with_reducible refine And.intro (by first | omega | rfl | assumption | decide) ?_)); (first | (refine hK _ _ ?_) | (refine ⟨_, rfl, hK _ _ ?_⟩) | (refine Or.inl (hK _ _ ?_))); clear hK K)
      | (with_reducible refine lops_nil ?_)
      | (with_reducible refine lavc_reg ?_)
      | (with_reducible refine lavc_seq ?_)
      | (with_reducible refine lavc_block ?_)
      | (with_reducible refine lavc_skip ?_)
      | (with_reducible refine lavc_exit ?_)
      | (with_reducible refine lavc_ret ?_)
      | (simp only [↓reduceIte, Nat.reduceEqDiff, reduceCtorEq]))
    refine And.intro (by simp) ?_
    simp (disch := first | omega | (simp only [go_sem, isRow, isFlat, Option.isSome_some]; done) | assumption | (simp only [ints_length, List.length_replicate, List.length_set, List.length_append, List.length_take, List.length_drop, List.length_cons, List.length_nil] <;> omega) | fail) only [go_sem, Nat.reduceAdd, Nat.reduceSub, reduceIte, Nat.reduceEqDiff, Int.reduceToNat, aret, aretL, aret1, aenv]
    (repeat (with_reducible refine And.intro (by first | omega | rfl | assumption | decide) ?_))
    exact end0 (NR.agg (NR.ints _ _)) (by rw [wN_all])
theorem start_p (key more : List Int) (c1 c2 : Option Nat) (n m : Nat) (hn : key.length = n) (hm : more.length = m) (h0 : 0 < n) (hl : 48 ≤ n + m) (hm2 : n ≤ 1000) (hm3 : m ≤ 1000) (hb : B8 key) (hc : B8 more) :
    PCall Try.prog glob 21 [.vsl n (ints .u8 key) c1, .vsl m (ints .u8 more) c2] (.agg (ints .i64 (Ytajkjhioihdncaa.Ext.startOf key more))) := by
  subst hn hm
  refine PCall.of ctx.nr (by (repeat (refine List.forall_mem_cons.2 (And.intro (by first | exact NR.v _ | exact NR.agg (NR.ints _ _) | exact NR.vsl (NR.ints _ _) | exact NR.vptr (NR.ints _ _) | assumption) ?_))); exact fun _ h => absurd h List.not_mem_nil) (NR.agg (NR.ints _ _)) ?_
  refine lcall21 (by simp) 0 (Nat.le_refl _) ?_
  unfold lc21
  simp only [List.length_cons, List.length_nil, Nat.reduceAdd, Nat.reduceSub, List.replicate_succ, List.replicate_zero, List.cons_append, List.nil_append]
  repeat (first
    | (with_reducible refine lops_step fun K hK => ?_; simp (disch := first | omega | (simp only [go_sem, isRow, isFlat, Option.isSome_some]; done) | assumption | (simp only [ints_length, List.length_replicate, List.length_set, List.length_append, List.length_take, List.length_drop, List.length_cons, List.length_nil] <;> omega) | fail) only [go_sem, Nat.reduceAdd, Nat.reduceSub, reduceIte, Nat.reduceEqDiff, Int.reduceToNat]; (repeat (with_reducible refine And.intro (by first | omega | rfl | assumption | decide) ?_)); (first | (refine hK _ _ ?_) | (refine ⟨_, rfl, hK _ _ ?_⟩) | (refine Or.inl (hK _ _ ?_))); clear hK K)
    | (with_reducible refine lops_nil ?_)
    | (with_reducible refine lavc_reg ?_)
    | (with_reducible refine lavc_seq ?_)
    | (with_reducible refine lavc_block ?_)
    | (with_reducible refine lavc_skip ?_)
    | (with_reducible refine lavc_exit ?_)
    | (with_reducible refine lavc_ret ?_)
    | (simp only [↓reduceIte, Nat.reduceEqDiff, reduceCtorEq]))
  refine lops_fz [2] ?_
  simp (disch := first | omega | (simp only [go_sem, isRow, isFlat, Option.isSome_some]; done) | assumption | (simp only [ints_length, List.length_replicate, List.length_set, List.length_append, List.length_take, List.length_drop, List.length_cons, List.length_nil] <;> omega) | fail) only [afz, fzV, fzS, fz_ints, List.map_cons, List.map_nil, List.getElem?_cons_zero, List.getElem?_cons_succ, List.set_cons_zero, List.set_cons_succ, ints_length, true_and, and_true, and_self, if_true, if_false, ↓reduceIte, Nat.reduceEqDiff, Nat.reduceLeDiff, Nat.reduceMul, Nat.reduceAdd, Nat.zero_add, Nat.mul_one, Nat.le_refl, List.length_replicate, List.drop_zero, ints_drop, ints_take, List.take_of_length_le, false_and, and_false, reduceCtorEq, Bool.false_eq_true, forall_const, if_pos, ints_append]
  (repeat (with_reducible refine And.intro (by first | omega | rfl | assumption | decide) ?_))
  intro K hK
  simp (disch := first | omega | (simp only [go_sem, isRow, isFlat, Option.isSome_some]; done) | assumption | (simp only [ints_length, List.length_replicate, List.length_set, List.length_append, List.length_take, List.length_drop, List.length_cons, List.length_nil] <;> omega) | fail) only [go_sem, Nat.reduceAdd, Nat.reduceSub, reduceIte, Nat.reduceEqDiff, Int.reduceToNat, ints_append]
  refine ⟨_, _, ((Words_p (Ytajkjhioihdncaa.Ext.sigma ++ key ++ more) none (16 + key.length + more.length) (by simp [Ytajkjhioihdncaa.Ext.sigma]; omega) (by omega) ((Ytajkjhioihdncaa.Ext.B8.sigma.append hb).append hc)).go _).weakQ, hK _ _ ?_⟩
  clear hK K
  have hwl := fromN_length (Ytajkjhioihdncaa.Ext.sigma ++ key ++ more) 64
  have hwl2 : (wordsOf (Ytajkjhioihdncaa.Ext.sigma ++ key ++ more)).length = 16 := hwl
  repeat (first
    | (with_reducible refine lops_step fun K hK => ?_; simp (disch := first | omega | (simp only [go_sem, isRow, isFlat, Option.isSome_some]; done) | assumption | (simp only [ints_length, List.length_replicate, List.length_set, List.length_append, List.length_take, List.length_drop, List.length_cons, List.length_nil] <;> omega) | fail) only [go_sem, Nat.reduceAdd, Nat.reduceSub, reduceIte, Nat.reduceEqDiff, Int.reduceToNat]; (repeat (with_reducible refine And.intro (by first | omega | rfl | assumption | decide) ?_)); (first | (refine hK _ _ ?_) | (refine ⟨_, rfl, hK _ _ ?_⟩) | (refine Or.inl (hK _ _ ?_))); clear hK K)
    | (with_reducible refine lops_nil ?_)
    | (with_reducible refine lavc_reg ?_)
    | (with_reducible refine lavc_seq ?_)
    | (with_reducible refine lavc_block ?_)
    | (with_reducible refine lavc_skip ?_)
    | (with_reducible refine lavc_exit ?_)
    | (with_reducible refine lavc_ret ?_)
    | (simp only [↓reduceIte, Nat.reduceEqDiff, reduceCtorEq]))
  refine And.intro (by simp) ?_
  simp (disch := first | omega | (simp only [go_sem, isRow, isFlat, Option.isSome_some]; done) | assumption | (simp only [ints_length, List.length_replicate, List.length_set, List.length_append, List.length_take, List.length_drop, List.length_cons, List.length_nil] <;> omega) | fail) only [go_sem, Nat.reduceAdd, Nat.reduceSub, reduceIte, Nat.reduceEqDiff, Int.reduceToNat, aret, aretL, aret1, aenv]
  (repeat (with_reducible refine And.intro (by first | omega | rfl | assumption | decide) ?_))
  exact end0 (NR.agg (NR.ints _ _)) rfl
/-- How far a row of bytes is that grows by four each round. -/
def BytesAt (l : List Int) (n : Nat) (x : Nat × AV × AHeap) : Prop :=
  n + x.1 = 16 ∧ ((x.1 = 0 ∧ x.2.1 = .v (.slice none 0 0) ∧ x.2.2 = []) ∨ (0 < x.1 ∧ x.2.1 = .sl 0 (x.1 - 1) 0 (4 * x.1) (4 * x.1) 1 false ∧ x.2.2 = [⟨ints .u8 (Ytajkjhioihdncaa.Ext.bytesOf (l.take x.1)), x.1 - 1, true, 5⟩]))
theorem bytes_n (l : List Int) (hl : l.length = 16) (hw : W32 l) : NCall Try.prog glob 19 [.vptr (ints .u32 l) 0] 5 64 64 1 false (ints .u8 (Ytajkjhioihdncaa.Ext.bytesOf l)) := by
  refine NCall.of (v := 15) ctx.nr (by (repeat (refine List.forall_mem_cons.2 (And.intro (by first | exact NR.v _ | exact NR.agg (NR.ints _ _) | exact NR.vsl (NR.ints _ _) | exact NR.vptr (NR.ints _ _) | assumption) ?_))); exact fun _ h => absurd h List.not_mem_nil) (NR.ints _ _) ?_
  refine lcall19 (by simp) 1 (Nat.zero_le _) ?_
  unfold lc19
  simp only [List.length_cons, List.length_nil, Nat.reduceAdd, Nat.reduceSub, List.replicate_succ, List.replicate_zero, List.cons_append, List.nil_append]
  repeat (first
    | (with_reducible refine lops_step fun K hK => ?_; simp (disch := first | omega | (simp only [go_sem, isRow, isFlat, Option.isSome_some]; done) | assumption | (simp only [ints_length, List.length_replicate, List.length_set, List.length_append, List.length_take, List.length_drop, List.length_cons, List.length_nil] <;> omega) | fail) only [go_sem, Nat.reduceAdd, Nat.reduceSub, reduceIte, Nat.reduceEqDiff, Int.reduceToNat]; (repeat (with_reducible refine And.intro (by first | omega | rfl | assumption | decide) ?_)); (first | (refine hK _ _ ?_) | (refine ⟨_, rfl, hK _ _ ?_⟩) | (refine Or.inl (hK _ _ ?_))); clear hK K)
    | (with_reducible refine lops_nil ?_)
    | (with_reducible refine lavc_reg ?_)
    | (with_reducible refine lavc_seq ?_)
    | (with_reducible refine lavc_block ?_)
    | (with_reducible refine lavc_skip ?_)
    | (with_reducible refine lavc_exit ?_)
    | (with_reducible refine lavc_ret ?_)
    | (simp only [↓reduceIte, Nat.reduceEqDiff, reduceCtorEq]))
  refine lavc_loopM ms19_0 (BytesAt l) (fun x => [(3, x.2.1), (7, .v (.int .i64 x.1))]) (fun x => x.2.2) 16 (0, .v (.slice none 0 0), []) ⟨rfl, .inl ⟨rfl, rfl, rfl⟩⟩ ?_ rfl ?_
  · simp only [ms19_0, putAll, blank, List.foldl_cons, List.foldl_nil, List.set_cons_succ, List.set_cons_zero, List.cons_append, List.nil_append, ALe, true_or, or_true, and_true, true_and, eq_self, reduceCtorEq, false_or]
    rfl
  rintro n ⟨k, s, h⟩ ⟨hk, hs⟩
  simp only at hk hs
  simp only [ms19_0, putAll, blank, List.foldl_cons, List.foldl_nil, List.set_cons_succ, List.set_cons_zero, List.cons_append, List.nil_append]
  repeat (first
    | (with_reducible refine lops_step fun K hK => ?_; simp (disch := first | omega | (simp only [go_sem, isRow, isFlat, Option.isSome_some]; done) | assumption | (simp only [ints_length, List.length_replicate, List.length_set, List.length_append, List.length_take, List.length_drop, List.length_cons, List.length_nil] <;> omega) | fail) only [go_sem, Nat.reduceAdd, Nat.reduceSub, reduceIte, Nat.reduceEqDiff, Int.reduceToNat]; (repeat (with_reducible refine And.intro (by first | omega | rfl | assumption | decide) ?_)); (first | (refine hK _ _ ?_) | (refine ⟨_, rfl, hK _ _ ?_⟩) | (refine Or.inl (hK _ _ ?_))); clear hK K)
    | (with_reducible refine lops_nil ?_)
    | (with_reducible refine lavc_reg ?_)
    | (with_reducible refine lavc_seq ?_)
    | (with_reducible refine lavc_block ?_)
    | (with_reducible refine lavc_skip ?_)
    | (with_reducible refine lavc_exit ?_)
    | (with_reducible refine lavc_ret ?_)
    | (simp only [↓reduceIte, Nat.reduceEqDiff, reduceCtorEq]))
  refine lavc_cond rfl (fun hc => ?_) (fun hc => ?_) <;> try simp only [decide_eq_true_eq, decide_eq_false_iff_not, Int.not_lt, Int.not_le, beq_iff_eq, bne_iff_ne, bne_eq_false_iff_eq, beq_eq_false_iff_ne, ne_eq, Bool.not_eq_true', Bool.not_eq_false'] at hc
  · have e2 := i64n ((k : Int) + 1) (k + 1) (by omega) (by omega)
    obtain ⟨x0, x1⟩ := hw.get k
    have hbs := Ytajkjhioihdncaa.Ext.bytesOf_step l k (by omega)
    have hg : l[k] = l.getD k 0 := by rw [List.getD_eq_getElem?_getD, List.getElem?_eq_getElem (by omega)]; rfl
    rw [hg] at hbs
    obtain ⟨x, hx⟩ : ∃ x, l.getD k 0 = x := ⟨_, rfl⟩
    rw [hx] at x0 x1 hbs hg
    have f1 : shrI .u32 x 8 = x / 256 := shrI_le _ _ _ (by decide)
    have f2 : shrI .u32 x 16 = x / 65536 := shrI_le _ _ _ (by decide)
    have f3 : shrI .u32 x 24 = x / 16777216 := shrI_le _ _ _ (by decide)
    have g0 : IntKind.u8.wrap x = x % 256 := IntKind.wrap_u8 x
    have g1 : IntKind.u8.wrap (x / 256) = x / 256 % 256 := IntKind.wrap_u8 _
    have g2 : IntKind.u8.wrap (x / 65536) = x / 65536 % 256 := IntKind.wrap_u8 _
    have g3 : IntKind.u8.wrap (x / 16777216) = x / 16777216 := by rw [IntKind.wrap_u8]; omega
    rcases hs with ⟨rfl, rfl, rfl⟩ | ⟨hpos, rfl, rfl⟩
    · repeat (first
        | (with_reducible refine lops_step fun K hK => ?_; simp (disch := first | omega | (simp only [go_sem, isRow, isFlat, Option.isSome_some]; done) | assumption | (simp only [ints_length, List.length_replicate, List.length_set, List.length_append, List.length_take, List.length_drop, List.length_cons, List.length_nil] <;> omega) | fail) only [go_sem, Nat.reduceAdd, Nat.reduceSub, reduceIte, Nat.reduceEqDiff, Int.reduceToNat, hx, e2, f1, f2, f3, g0, g1, g2, g3]; (repeat (with_reducible refine And.intro (by first | omega | rfl | assumption | decide) ?_)); (first | (refine hK _ _ ?_) | (refine ⟨_, rfl, hK _ _ ?_⟩) | (refine Or.inl (hK _ _ ?_))); clear hK K)
        | (with_reducible refine lops_nil ?_)
        | (with_reducible refine lavc_reg ?_)
        | (with_reducible refine lavc_seq ?_)
        | (with_reducible refine lavc_block ?_)
        | (with_reducible refine lavc_skip ?_)
        | (with_reducible refine lavc_exit ?_)
        | (with_reducible refine lavc_ret ?_)
        | (simp only [↓reduceIte, Nat.reduceEqDiff, reduceCtorEq]))
      refine ⟨n - 1, (1, .sl 0 0 0 4 4 1 false, [⟨ints .u8 (Ytajkjhioihdncaa.Ext.bytesOf (l.take 1)), 0, true, 5⟩]), by omega, ⟨by simp only; omega, .inr ⟨by simp only; omega, rfl, rfl⟩⟩, ?_, ?_⟩
      · simp only [ms19_0, putAll, blank, List.foldl_cons, List.foldl_nil, List.set_cons_succ, List.set_cons_zero, List.cons_append, List.nil_append, ALe, true_or, or_true, and_true, true_and, eq_self, reduceCtorEq, false_or]
      · rw [show (1 : Nat) = 0 + 1 from rfl, hbs]
        rfl
    · have e5 : k - 1 + 1 = k := by omega
      have hbl : (Ytajkjhioihdncaa.Ext.bytesOf (l.take k)).length = 4 * k := by rw [Ytajkjhioihdncaa.Ext.bytesOf_length, List.length_take]; omega
      repeat (first
        | (with_reducible refine lops_step fun K hK => ?_; simp (disch := first | omega | (simp only [go_sem, isRow, isFlat, Option.isSome_some]; done) | assumption | (simp only [ints_length, List.length_replicate, List.length_set, List.length_append, List.length_take, List.length_drop, List.length_cons, List.length_nil] <;> omega) | fail) only [go_sem, Nat.reduceAdd, Nat.reduceSub, reduceIte, Nat.reduceEqDiff, Int.reduceToNat, hx, e2, f1, f2, f3, g0, g1, g2, g3, e5, ints_append]; (repeat (with_reducible refine And.intro (by first | omega | rfl | assumption | decide) ?_)); (first | (refine hK _ _ ?_) | (refine ⟨_, rfl, hK _ _ ?_⟩) | (refine Or.inl (hK _ _ ?_))); clear hK K)
        | (with_reducible refine lops_nil ?_)
        | (with_reducible refine lavc_reg ?_)
        | (with_reducible refine lavc_seq ?_)
        | (with_reducible refine lavc_block ?_)
        | (with_reducible refine lavc_skip ?_)
        | (with_reducible refine lavc_exit ?_)
        | (with_reducible refine lavc_ret ?_)
        | (simp only [↓reduceIte, Nat.reduceEqDiff, reduceCtorEq]))
      refine ⟨n - 1, (k + 1, .sl 0 k 0 (4 * (k + 1)) (4 * (k + 1)) 1 false, [⟨ints .u8 (Ytajkjhioihdncaa.Ext.bytesOf (l.take (k + 1))), k, true, 5⟩]), by omega, ⟨by simp only; omega, .inr ⟨by simp only; omega, rfl, rfl⟩⟩, ?_, ?_⟩
      · simp only [ms19_0, putAll, blank, List.foldl_cons, List.foldl_nil, List.set_cons_succ, List.set_cons_zero, List.cons_append, List.nil_append, ALe, true_or, or_true, and_true, true_and, eq_self, reduceCtorEq, false_or, Nat.mul_add]
      · rw [hbs]
        rfl
  · obtain rfl : k = 16 := by omega
    rcases hs with ⟨h, _⟩ | ⟨_, rfl, rfl⟩
    · cases h
    · have e6 : l.take 16 = l := List.take_of_length_le (by omega)
      repeat (first
        | (with_reducible refine lops_step fun K hK => ?_; simp (disch := first | omega | (simp only [go_sem, isRow, isFlat, Option.isSome_some]; done) | assumption | (simp only [ints_length, List.length_replicate, List.length_set, List.length_append, List.length_take, List.length_drop, List.length_cons, List.length_nil] <;> omega) | fail) only [go_sem, Nat.reduceAdd, Nat.reduceSub, reduceIte, Nat.reduceEqDiff, Int.reduceToNat, e6]; (repeat (with_reducible refine And.intro (by first | omega | rfl | assumption | decide) ?_)); (first | (refine hK _ _ ?_) | (refine ⟨_, rfl, hK _ _ ?_⟩) | (refine Or.inl (hK _ _ ?_))); clear hK K)
        | (with_reducible refine lops_nil ?_)
        | (with_reducible refine lavc_reg ?_)
        | (with_reducible refine lavc_seq ?_)
        | (with_reducible refine lavc_block ?_)
        | (with_reducible refine lavc_skip ?_)
        | (with_reducible refine lavc_exit ?_)
        | (with_reducible refine lavc_ret ?_)
        | (simp only [↓reduceIte, Nat.reduceEqDiff, reduceCtorEq]))
      refine And.intro (by simp) ?_
      simp (disch := first | omega | (simp only [go_sem, isRow, isFlat, Option.isSome_some]; done) | assumption | (simp only [ints_length, List.length_replicate, List.length_set, List.length_append, List.length_take, List.length_drop, List.length_cons, List.length_nil] <;> omega) | fail) only [go_sem, Nat.reduceAdd, Nat.reduceSub, reduceIte, Nat.reduceEqDiff, Int.reduceToNat, aret, aretL, aret1, aenv, e6]
      (repeat (with_reducible refine And.intro (by first | omega | rfl | assumption | decide) ?_))
      exact endN (NR.ints _ _) rfl
end Go.Abs.S
