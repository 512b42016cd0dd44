/- blake.Long, in the program. cellar: sums of parts; five numbers' bytes. -/
import Derived.Test.YtkeacmonhjhgeaaDoorBlaF
import Derived.Test.YtkeacmonhjhgeaaDoorCelK
import Derived.Test.YtkeacmonhjhgeaaDoorCelG
namespace Go.Abs.S
attribute [local go_sem] lguard aopO aop nxL aenv toAV tput aLoad aStore vcells aBin aNilI aUn aAlloc aBox aBuild aBSlice afill aConv isIntT aappZ aCap aArr aMM aMake aSlice bnd3 bnd aFldAddr aFld aIdxAddr aIdx aExt aLen aCopy aEq0 bAV aUb aapp aappQ agh acont List.getD_cons_zero List.getD_cons_succ List.set_cons_zero List.set_cons_succ List.getElem?_cons_zero List.getElem?_cons_succ List.length_cons List.length_nil List.map_cons List.map_nil ints_length if_true if_false Bool.false_eq_true true_and and_true eq_self ne_eq not_false_eq_true not_true_eq_false beq_self_eq_true Nat.zero_add Nat.add_zero Nat.mul_one Nat.zero_mul Int.toNat_natCast List.toList_toArray List.all_cons List.all_nil AV.one Value.oneCell' Bool.and_true Bool.true_and forall_const true_implies false_implies implies_true Option.map_some Option.map_none Option.isSome_some Option.isSome_none imp_self rdP_flat rdP_row splice_one ints_set ints_get List.append_nil List.cons_append List.nil_append List.getElem?_toArray List.drop_zero ints_drop ints_take List.take_of_length_le splice_all ints_one Option.some.injEq Option.getD_some List.length_replicate zArr List.map_replicate rep_ints splice_intsR List.length_set List.length_append List.flatten_replicate_singleton rep_slice rep_string rep_bool rep_iface List.replicate_zero if_pos if_neg List.mapM_cons List.mapM_nil Option.pure_def Option.bind_eq_bind Option.bind_some Bool.true_eq_false Bool.not_false Bool.not_true get_concat set_concat
open Go.Proofs
open Go.Abs.B
set_option linter.unusedVariables false
set_option linter.unusedSimpArgs false
set_option maxRecDepth 100000
set_option maxHeartbeats 4000000
theorem Long_p (xs : List AV) (cx : Option Nat) (rs : List (List Int)) (hr : Rws xs rs) (T : List Int) (hT : rs.flatten = T) (bT : B8 T) (h3 : T.length ≤ 1000000) (h4 : rs.length ≤ 70368744177664) :
    PCall Tryd.prog glob 25 [.vsl rs.length xs cx] (.vsl 64 (ints .u8 (sumP 64 [] T)) none) := by
  refine PCall.of ctx.nr (List.forall_mem_cons.2 ⟨NR.vsl hr.nr, fun _ h => absurd h List.not_mem_nil⟩) (NR.vsl (NR.ints _ _)) ?_
  refine lcall25 (by simp) 0 (Nat.le_refl _) ?_
  unfold lc25
  simp only [List.length_cons, List.length_nil, Nat.reduceAdd, Nat.reduceSub, List.replicate_succ, List.replicate_zero, List.cons_append, List.nil_append]
  have hs := (Sum_p 64 [] none 0 rfl (by decide) (by decide) (by decide) B8.nil xs cx rs hr T hT bT h3 h4).les (args := [.v (.int .i64 64), .v (.slice none 0 0), .vsl rs.length xs cx]) ⟨AvLe.refl _, AvLe.nil, AvLe.refl _, trivial⟩
  repeat (first
    | (with_reducible refine lops_step fun K hK => ?_; simp (disch := first | omega | (simp only [go_sem, isRow, isFlat, Option.isSome_some]; done) | assumption | (simp only [ints_length, List.length_replicate, List.length_set, List.length_append, List.length_take, List.length_drop, List.length_cons, List.length_nil] <;> omega) | fail) only [go_sem, Nat.reduceAdd, Nat.reduceSub, reduceIte, Nat.reduceEqDiff, Int.reduceToNat, Int.reduceBEq, Int.reduceBNe]; (repeat (with_reducible refine And.intro (by first | omega | rfl | assumption | decide) ?_)); (first | (refine hK _ _ ?_) | (refine ⟨_, rfl, hK _ _ ?_⟩) | (refine Or.inl (hK _ _ ?_)) | (refine ⟨_, _, Or.inl (hs.go _), (by first | exact ⟨[], (List.append_nil _).symm⟩ | exact ⟨_, rfl⟩), hK _ _ ?_⟩) | (refine ⟨_, _, Or.inl (hs.go _), hK _ _ ?_⟩) | (refine ⟨_, _, Or.inl (hs.go _).weakQ, hK _ _ ?_⟩)); clear hK K)
    | (with_reducible refine lops_nil ?_)
    | (with_reducible refine lavc_reg ?_)
    | (with_reducible refine lavc_seq ?_)
    | (with_reducible refine lavc_block ?_)
    | (with_reducible refine lavc_skip ?_)
    | (with_reducible refine lavc_exit ?_)
    | (with_reducible refine lavc_ret ?_)
    | (with_reducible refine lavcR_round ?_)
    | (simp only [↓reduceIte, Nat.reduceEqDiff, reduceCtorEq]))
  refine And.intro (by simp) ?_
  simp (disch := first | omega | (simp only [go_sem, isRow, isFlat, Option.isSome_some]; done) | assumption | (simp only [ints_length, List.length_replicate, List.length_set, List.length_append, List.length_take, List.length_drop, List.length_cons, List.length_nil] <;> omega) | fail) only [go_sem, Nat.reduceAdd, Nat.reduceSub, reduceIte, Nat.reduceEqDiff, Int.reduceToNat, Int.reduceBEq, Int.reduceBNe, aret, aretL, aret1, aenv]
  (repeat (with_reducible refine And.intro (by first | omega | rfl | assumption | decide) ?_))
  exact end0 (NR.vsl (NR.ints _ _)) rfl
open Go.Proofs
open Go.Abs.B
set_option linter.unusedVariables false
set_option linter.unusedSimpArgs false
set_option maxRecDepth 100000
set_option maxHeartbeats 4000000
/-- The sum of parts as one. -/
def sumC (rs : List (List Int)) : List Int := sumP 64 [] (packP rs)
theorem sumC_length (rs : List (List Int)) : (sumC rs).length = 64 := sumP_length _ _ _
theorem pack_len (rs : List (List Int)) (M : Nat) (h : ∀ r ∈ rs, r.length ≤ M) : (packP rs).length ≤ 8 + rs.length * (M + 8) := by
  have hf : ∀ l : List (List Int), (∀ r ∈ l, r.length ≤ M) → (l.flatMap fun r => leN 8 r.length ++ r).length ≤ l.length * (M + 8) := by
    intro l
    induction l with
    | nil => simp
    | cons a l ih =>
      intro h
      have g1 := ih (fun q hq => h q (List.mem_cons_of_mem _ hq))
      have g2 := h a List.mem_cons_self
      rw [List.flatMap_cons, List.length_append, List.length_append, leN_length, List.length_cons, Nat.succ_mul]
      omega
  unfold packP packN
  rw [List.length_append, leN_length]
  have := hf rs h
  omega
theorem pack_b8 (rs : List (List Int)) (h : ∀ r ∈ rs, B8 r) : B8 (packP rs) := by
  unfold packP packN
  refine B8.append (leN_bytes 8 _) (fun x hx => ?_)
  obtain ⟨r, hr, hx⟩ := List.mem_flatMap.1 hx
  exact (B8.append (leN_bytes 8 _) (h r hr)) x hx
theorem sum_p (xs : List AV) (cx : Option Nat) (rs : List (List Int)) (hr : Rws xs rs) (h1 : rs.length ≤ 20) (h2 : ∀ r ∈ rs, r.length ≤ 1000) (h3 : ∀ r ∈ rs, B8 r) :
    PCall Tryd.prog glob 13 [.vsl rs.length xs cx] (.vsl 64 (ints .u8 (sumC rs)) none) := by
  refine PCall.of ctx.nr (List.forall_mem_cons.2 ⟨NR.vsl hr.nr, fun _ h => absurd h List.not_mem_nil⟩) (NR.vsl (NR.ints _ _)) ?_
  refine lcall13 (by simp) 0 (Nat.le_refl _) ?_
  unfold lc13
  simp only [List.length_cons, List.length_nil, Nat.reduceAdd, Nat.reduceSub, List.replicate_succ, List.replicate_zero, List.cons_append, List.nil_append]
  have pp := fun c => pack_p rs xs c hr (by omega) h2
  have hl := pack_len rs 1000 h2
  have hb := pack_b8 rs h3
  obtain ⟨T, hT⟩ : ∃ T, packP rs = T := ⟨_, rfl⟩
  have hsum : sumC rs = sumP 64 [] T := by unfold sumC; rw [hT]
  rw [hsum]
  rw [hT] at pp hl hb
  have lp := fun c => Long_p [.vsl T.length (ints .u8 T) none] c [T] (Rws.cons rfl Rws.nil) T (by simp) hb (by have : rs.length * 1008 ≤ 20 * 1008 := Nat.mul_le_mul_right _ h1; omega) (by simp)
  have one : ∀ x : AV, (List.replicate 1 (AV.v (Value.slice none 0 0))).set 0 x = [x] := fun _ => rfl
  repeat (first
    | (with_reducible refine lops_step fun K hK => ?_; simp (disch := first | omega | (simp only [go_sem, isRow, isFlat, Option.isSome_some]; done) | assumption | (simp only [ints_length, List.length_replicate, List.length_set, List.length_append, List.length_take, List.length_drop, List.length_cons, List.length_nil] <;> omega) | fail) only [go_sem, Nat.reduceAdd, Nat.reduceSub, reduceIte, Nat.reduceEqDiff, Int.reduceToNat, Int.reduceBEq, Int.reduceBNe, one]; (repeat (with_reducible refine And.intro (by first | omega | rfl | assumption | decide) ?_)); (first | (refine hK _ _ ?_) | (refine ⟨_, rfl, hK _ _ ?_⟩) | (refine Or.inr (hK _ _ ?_)) | (refine Or.inr ⟨rfl, hK _ _ ?_⟩) | (refine ⟨_, _, Or.inl ((pp _).go _), (by first | exact ⟨[], (List.append_nil _).symm⟩ | exact ⟨_, rfl⟩), hK _ _ ?_⟩) | (refine ⟨_, _, Or.inl ((pp _).go _), hK _ _ ?_⟩) | (refine ⟨_, _, Or.inl ((pp _).go _).weakQ, hK _ _ ?_⟩) | (refine ⟨_, _, Or.inl ((lp _).go _), (by first | exact ⟨[], (List.append_nil _).symm⟩ | exact ⟨_, rfl⟩), hK _ _ ?_⟩) | (refine ⟨_, _, Or.inl ((lp _).go _), hK _ _ ?_⟩) | (refine ⟨_, _, Or.inl ((lp _).go _).weakQ, hK _ _ ?_⟩)); clear hK K)
    | (with_reducible refine lops_nil ?_)
    | (with_reducible refine lavc_reg ?_)
    | (with_reducible refine lavc_seq ?_)
    | (with_reducible refine lavc_block ?_)
    | (with_reducible refine lavc_skip ?_)
    | (with_reducible refine lavc_exit ?_)
    | (with_reducible refine lavc_ret ?_)
    | (with_reducible refine lavcR_round ?_)
    | (simp only [↓reduceIte, Nat.reduceEqDiff, reduceCtorEq]))
  refine And.intro (by simp) ?_
  simp (disch := first | omega | (simp only [go_sem, isRow, isFlat, Option.isSome_some]; done) | assumption | (simp only [ints_length, List.length_replicate, List.length_set, List.length_append, List.length_take, List.length_drop, List.length_cons, List.length_nil] <;> omega) | fail) only [go_sem, Nat.reduceAdd, Nat.reduceSub, reduceIte, Nat.reduceEqDiff, Int.reduceToNat, Int.reduceBEq, Int.reduceBNe, aret, aretL, aret1, aenv]
  (repeat (with_reducible refine And.intro (by first | omega | rfl | assumption | decide) ?_))
  exact end0 (NR.vsl (NR.ints _ _)) rfl
end Go.Abs.S
