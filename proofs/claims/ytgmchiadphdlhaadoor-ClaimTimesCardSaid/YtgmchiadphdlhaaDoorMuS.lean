/- The methods of strings.Builder, in the second view. WriteString. -/
import Derived.Test.YtgmchiadphdlhaaDoorCodB
import Derived.Test.YtgmchiadphdlhaaDoorAbsJoin
import Derived.Lib.Builder
namespace Go.Abs.S
attribute [local go_sem] lguard aopO aop nxL aenv toAV tput aLoad aStore vcells aBin aNilI aUn aAlloc aBox aBuild aBSlice afill aConv isIntT aappZ aCap aArr aMM aMake aSlice bnd3 bnd aFldAddr aFld aIdxAddr aIdx aExt aLen aCopy aEq0 bAV aUb aapp aappQ agh acont List.getD_cons_zero List.getD_cons_succ List.set_cons_zero List.set_cons_succ List.getElem?_cons_zero List.getElem?_cons_succ List.length_cons List.length_nil List.map_cons List.map_nil ints_length if_true if_false Bool.false_eq_true true_and and_true eq_self ne_eq not_false_eq_true not_true_eq_false beq_self_eq_true Nat.zero_add Nat.add_zero Nat.mul_one Nat.zero_mul Int.toNat_natCast List.toList_toArray List.all_cons List.all_nil AV.one Value.oneCell' Bool.and_true Bool.true_and forall_const true_implies false_implies implies_true Option.map_some Option.map_none Option.isSome_some Option.isSome_none imp_self rdP_flat rdP_row splice_one ints_set ints_get List.append_nil List.cons_append List.nil_append List.getElem?_toArray List.drop_zero ints_drop ints_take List.take_of_length_le splice_all ints_one Option.some.injEq Option.getD_some List.length_replicate zArr List.map_replicate rep_ints splice_intsR List.length_set List.length_append List.flatten_replicate_singleton rep_slice rep_string rep_bool rep_iface List.replicate_zero if_pos if_neg List.mapM_cons List.mapM_nil Option.pure_def Option.bind_eq_bind Option.bind_some Bool.true_eq_false Bool.not_false Bool.not_true get_concat set_concat
open Go.Proofs
set_option linter.unusedVariables false
set_option linter.unusedSimpArgs false
set_option maxRecDepth 100000
set_option maxHeartbeats 2000000
theorem sizeB : (Tryd.prog.info? 63).map (·.size) = some 2 := by kernel_rfl
theorem liesB1 : sameLayout Tryd.prog Tryd.prog.depth 63 63 = true := by kernel_rfl
theorem depthB : Tryd.prog.depth - 1 + 1 = Tryd.prog.depth := by kernel_rfl
theorem cellsB : Tryd.prog.cellsOf 63 = 2 := by kernel_rfl
theorem liesB (m : Nat) (h : 2 ≤ m) : liesAt Tryd.prog Tryd.prog.depth 63 (m / Tryd.prog.cellsOf 63) 0 63 1 = true := by
  have h1 : ∀ d, rowAt Tryd.prog (sameLayout Tryd.prog Tryd.prog.depth · 63) (d + 1) 63 (m / Tryd.prog.cellsOf 63) 0 1 = true := by
    intro d
    have h2 : 1 ≤ m / 2 := by omega
    simp [rowAt, cellsB, liesB1, h2]
  have h3 : ∀ d, liesAt Tryd.prog (d + 1) 63 (m / Tryd.prog.cellsOf 63) 0 63 1 = true := by
    intro d
    have := h1 (Tryd.prog.depth - 1)
    rw [depthB] at this
    simp [liesAt, this]
  have := h3 (Tryd.prog.depth - 1)
  rwa [depthB] at this
theorem noEscape (x : Value) (w : World) : (callFunc 47 #[x]).run Tryd.prog w = .ok (.value x) w := by
  rw [run_callFunc_extern Tryd.func47 (by kernel_rfl) (by kernel_rfl) (by kernel_rfl) (e := Extern.AbiNoEscape.same) (by kernel_rfl)]
  rw [Lib.run_noEscape]
  rfl
theorem check_used (b : Nat) (w : World) (h0 : w.cell? ⟨b, 0, none⟩ = some (.pointer (some ⟨b, 0, none⟩))) :
    Calls Tryd.prog 35 #[.pointer (some ⟨b, 0, none⟩)] w fun e w' => e = .returned (.tuple #[]) ∧ w' = w := by
  obtain ⟨j, hj, _⟩ := Option.map_eq_some_iff.1 sizeB
  go_enter Tryd.func35, Tryd.ntmps35
  go_wp2
  rw [Lib.run_neq_ptr_same w _ Tryd.underlying60 hj]
  go_wp2
  go_end0
  exact ⟨rfl, rfl⟩
theorem check_fresh (b m : Nat) (hm : 2 ≤ m) (w : World) (h0 : w.cell? ⟨b, 0, none⟩ = some (.pointer none)) (hsh : w.shape? b = some (63, m)) (hfz : w.frozen? ⟨b, 0, none⟩ = false) :
    Calls Tryd.prog 35 #[.pointer (some ⟨b, 0, none⟩)] w fun e w' => e = .returned (.tuple #[]) ∧ w' = w.setCell ⟨b, 0, none⟩ (.pointer (some ⟨b, 0, none⟩)) := by
  obtain ⟨j, hj, hjs⟩ := Option.map_eq_some_iff.1 sizeB
  go_enter Tryd.func35, Tryd.ntmps35
  go_wp2
  rw [Lib.run_to_unsafe w ⟨b, 0, none⟩ Tryd.underlying60 Tryd.underlying95 hj (by rw [hjs]; decide) hsh (by show 0 < m; omega)]
  simp only [Result.andThen]
  rw [Oper.upon_value]
  go_wp2
  rw [noEscape]
  rw [Oper.upon_value]
  go_wp2
  rw [Lib.run_from_unsafe w ⟨b, 0, none⟩ Tryd.underlying95 Tryd.underlying60 hj hsh (liesB m hm)]
  simp only [Result.andThen]
  rw [Oper.upon_value]
  go_wp2
  go_end0
  exact ⟨rfl, rfl⟩
/-- The check whether a builder was copied: nothing that is seen here turns. -/
theorem check_a {H : AHeap} {b v : Nat} {y : AV} (hb : H[b]? = some ⟨[.bad b v, y], v, true, 63⟩) : ACall Tryd.prog glob false 35 [.ptr b v 0] H (.tup []) H := by
  refine ⟨⟨_, Tryd.func35, by kernel_rfl, by kernel_rfl⟩, fun σ w us hu ha rel => ?_⟩
  obtain ⟨u0, rfl⟩ : ∃ u, us = #[u] := by
    obtain ⟨l⟩ := us
    match l, hu with
    | [u], _ => exact ⟨u, rfl⟩
  have h0 := ha 0 (by simp)
  simp only [List.getD_cons_zero] at h0
  have e0 : (#[u0] : Array Value).getD 0 undef = u0 := rfl
  rw [e0] at h0
  cases h0 with
  | @ptr _ _ _ l hρ =>
    obtain ⟨B, base, lim⟩ := l
    obtain rfl : base = 0 := rel.base0 _ _ _ hρ
    obtain ⟨C, fr, c1, c2, c3, c4, c5⟩ := rel.blk b _ _ hb rfl hρ
    obtain ⟨u, d1, d2⟩ := c5 0 (by simp)
    obtain ⟨uy, y1, y2⟩ := c5 1 (by simp)
    simp only [Nat.zero_add, Nat.add_zero, List.getD_cons_zero, List.getD_cons_succ, List.length_cons, List.length_nil] at *
    have hcell : w.cell? ⟨B, 0, none⟩ = some u := by simp only [World.cell?, c1]; exact d1
    have hC : 2 ≤ C.size := by omega
    cases d2 with
    | bad h =>
      rw [hρ] at h
      cases h
      refine (check_used B w hcell).mono ?_
      rintro e w' ⟨rfl, rfl⟩
      exact ⟨_, rfl, Res.same rel (.tup _ rfl (fun j hj => by simp at hj))⟩
    | bad0 =>
      refine (check_fresh B lim c3 w hcell (by simp [World.shape?, c1, c2]) (by
        simp only [World.frozen?, c1]
        rcases c4 with h | h
        · simp; omega
        · simp; omega)).mono ?_
      rintro e w' ⟨rfl, rfl⟩
      have hup := rel.upd hb rfl hρ (C := C.setIfInBounds 0 (.pointer (some ⟨B, 0, none⟩))) (fr := fr) (w' := w.setCell ⟨B, 0, none⟩ (.pointer (some ⟨B, 0, none⟩))) [.bad b v, y] (setCell_blk w B 0 _ C _ fr c1) (by simpa using c2) (by simpa using c3) c4 (fun j hj => by
        match j, hj with
        | 0, _ =>
          refine ⟨.pointer (some ⟨B, 0, none⟩), ?_, by simpa using AR.bad hρ⟩
          simp only [Nat.zero_add]
          rw [Array.getElem?_setIfInBounds_self_of_lt (by omega)]
        | 1, _ =>
          refine ⟨uy, ?_, by simpa using y2⟩
          simp only [Nat.zero_add]
          rw [Array.getElem?_setIfInBounds_ne (by omega)]
          exact y1) (fun B' hB => by
        simp only [World.setCell]
        rw [Array.getElem?_modify, if_neg (fun e => hB e.symm)]) (by simp [World.setCell]) rfl rfl rfl
      rw [set_same hb] at hup
      exact ⟨_, rfl, σ, .tup _ rfl (fun j hj => by simp at hj), hup.1, hup.2.1, fun h => by cases h⟩
theorem ne_bld {H : AHeap} {b v b1 v1 n : Nat} {acc : List Int} {e e1 : TypeId} (hb : H[b]? = some ⟨[.bad b v, .bsl b1 v1 n], v, true, e⟩) (h1 : H[b1]? = some ⟨ints .u8 acc, v1, true, e1⟩) : b ≠ b1 := by
  rintro rfl
  rw [hb] at h1
  cases acc with
  | nil => simp [ints] at h1
  | cons a l => simp [ints] at h1
theorem String_a {H : AHeap} {b v b1 v1 n : Nat} {acc : List Int} (hb : H[b]? = some ⟨[.bad b v, .bsl b1 v1 n], v, true, 63⟩) (h1 : H[b1]? = some ⟨ints .u8 acc, v1, true, 5⟩) (hn : n = acc.length) (hl : acc.length ≤ 9223372036854775807) (hu : ∀ x ∈ acc, 0 ≤ x ∧ x ≤ 255) :
    ACall Tryd.prog glob false 22 [.ptr b v 0] H (.v (.string (strOf acc))) (H.set b1 ⟨ints .u8 acc, v1, false, 5⟩) := by
  have hu8 : u8s (ints .u8 acc) := u8s_ints.2 hu
  refine lcallk22 (by simp) ?_
  unfold lc22
  simp only [List.length_cons, List.length_nil, Nat.reduceAdd, Nat.reduceSub, List.replicate_succ, List.replicate_zero, List.cons_append, List.nil_append]
  repeat (first
    | (with_reducible refine lops_step fun K hK => ?_; simp (disch := first | exact dch | fail) only [go_sem, Nat.reduceAdd, Nat.reduceSub, reduceIte, Nat.reduceEqDiff, Int.reduceToNat, Int.reduceBEq, Int.reduceBNe, hb, h1, hn, aUsd, aUst, ints_length]; (repeat (with_reducible refine And.intro acl ?_)); (first | (refine hK _ _ ?_) | (refine ⟨_, rfl, hK _ _ ?_⟩) | (refine Or.inl (hK _ _ ?_)) | (refine ⟨_, _, Or.inl (check_a hb), (by first | exact ⟨[], (List.append_nil _).symm⟩ | exact ⟨_, rfl⟩), hK _ _ ?_⟩) | (refine ⟨_, _, Or.inl (check_a hb), hK _ _ ?_⟩) | (refine ⟨_, _, Or.inl (check_a hb).weakQ, hK _ _ ?_⟩)); clear hK K)
    | (with_reducible refine lops_nil ?_)
    | (with_reducible first | refine lavc_reg ?_ | refine lavc_seq ?_ | refine lavc_block ?_ | refine lavc_skip ?_ | refine lavc_exit ?_ | refine lavc_ret ?_ | refine lavcR_round ?_)
    | (simp only [↓reduceIte, Nat.reduceEqDiff, reduceCtorEq]))
  refine And.intro (by simp) ?_
  simp (disch := first | exact dch | fail) only [go_sem, Nat.reduceAdd, Nat.reduceSub, reduceIte, Nat.reduceEqDiff, Int.reduceToNat, Int.reduceBEq, Int.reduceBNe, aret, aretL, aret1, aenv]
  (repeat (with_reducible refine And.intro acl ?_))
open Go.Proofs
set_option linter.unusedVariables false
set_option linter.unusedSimpArgs false
set_option maxRecDepth 100000
set_option maxHeartbeats 2000000
theorem WriteString_a {H : AHeap} {b v b1 v1 n : Nat} {acc : List Int} {s : ByteArray} (hb : H[b]? = some ⟨[.bad b v, .bsl b1 v1 n], v, true, 63⟩) (h1 : H[b1]? = some ⟨ints .u8 acc, v1, true, 5⟩) (hn : n = acc.length) (hl : acc.length + s.size ≤ 140737488355328) :
    ACall Tryd.prog glob false 20 [.ptr b v 0, .v (.string s)] H (.tup [.v (.int .i64 s.size), .v .nilIface]) ((H.set b1 ⟨ints .u8 (acc ++ bytesOf s), v1 + 1, true, 5⟩).set b ⟨[.bad b v, .bsl b1 (v1 + 1) (n + s.size)], v, true, 63⟩) := by
  have hne := ne_bld hb h1
  refine lcallk20 (by simp) ?_
  unfold lc20
  simp only [List.length_cons, List.length_nil, Nat.reduceAdd, Nat.reduceSub, List.replicate_succ, List.replicate_zero, List.cons_append, List.nil_append]
  have em : List.map (fun b : UInt8 => AV.v (Value.int .u8 (b.toNat : Int))) s.data.toList = ints .u8 (bytesOf s) := by simp [ints, bytesOf]
  repeat (first
    | (with_reducible refine lops_step fun K hK => ?_; simp (disch := first | exact dch | fail) only [go_sem, Nat.reduceAdd, Nat.reduceSub, reduceIte, Nat.reduceEqDiff, Int.reduceToNat, Int.reduceBEq, Int.reduceBNe, hb, h1, hn, em, ints_one, List.getElem?_set_ne hne.symm]; (repeat (with_reducible refine And.intro acl ?_)); (first | (refine hK _ _ ?_) | (refine ⟨_, rfl, hK _ _ ?_⟩) | (refine Or.inr (hK _ _ ?_)) | (refine Or.inr ⟨rfl, hK _ _ ?_⟩) | (refine ⟨_, _, Or.inl (check_a hb), (by first | exact ⟨[], (List.append_nil _).symm⟩ | exact ⟨_, rfl⟩), hK _ _ ?_⟩) | (refine ⟨_, _, Or.inl (check_a hb), hK _ _ ?_⟩) | (refine ⟨_, _, Or.inl (check_a hb).weakQ, hK _ _ ?_⟩)); clear hK K)
    | (with_reducible refine lops_nil ?_)
    | (with_reducible first | refine lavc_reg ?_ | refine lavc_seq ?_ | refine lavc_block ?_ | refine lavc_skip ?_ | refine lavc_exit ?_ | refine lavc_ret ?_ | refine lavcR_round ?_)
    | (simp only [↓reduceIte, Nat.reduceEqDiff, reduceCtorEq]))
  refine And.intro (by simp) ?_
  simp (disch := first | exact dch | fail) only [go_sem, Nat.reduceAdd, Nat.reduceSub, reduceIte, Nat.reduceEqDiff, Int.reduceToNat, Int.reduceBEq, Int.reduceBNe, aret, aretL, aret1, aenv]
  (repeat (with_reducible refine And.intro acl ?_))
  rw [ints_append, hn]
end Go.Abs.S
