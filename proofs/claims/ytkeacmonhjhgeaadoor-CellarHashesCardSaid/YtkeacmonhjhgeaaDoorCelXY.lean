/- cellar: the document's Hash. CellarGoods, the law. CellarHashes, the law. -/
import Derived.Test.YtkeacmonhjhgeaaDoorCelTV
import Derived.Test.YtkeacmonhjhgeaaDoorCodH
import Derived.Test.YtkeacmonhjhgeaaDoorCelG
namespace Go.Abs.S
attribute [local go_sem] lguard aopO aop nxL aenv toAV tput aLoad aStore vcells aBin aNilI aUn aAlloc aBox aBuild aBSlice afill aConv isIntT aappZ aCap aArr aMM aMake aSlice bnd3 bnd aFldAddr aFld aIdxAddr aIdx aExt aLen aCopy aEq0 bAV aUb aapp aappQ agh acont List.getD_cons_zero List.getD_cons_succ List.set_cons_zero List.set_cons_succ List.getElem?_cons_zero List.getElem?_cons_succ List.length_cons List.length_nil List.map_cons List.map_nil ints_length if_true if_false Bool.false_eq_true true_and and_true eq_self ne_eq not_false_eq_true not_true_eq_false beq_self_eq_true Nat.zero_add Nat.add_zero Nat.mul_one Nat.zero_mul Int.toNat_natCast List.toList_toArray List.all_cons List.all_nil AV.one Value.oneCell' Bool.and_true Bool.true_and forall_const true_implies false_implies implies_true Option.map_some Option.map_none Option.isSome_some Option.isSome_none imp_self rdP_flat rdP_row splice_one ints_set ints_get List.append_nil List.cons_append List.nil_append List.getElem?_toArray List.drop_zero ints_drop ints_take List.take_of_length_le splice_all ints_one Option.some.injEq Option.getD_some List.length_replicate zArr List.map_replicate rep_ints splice_intsR List.length_set List.length_append List.flatten_replicate_singleton rep_slice rep_string rep_bool rep_iface List.replicate_zero if_pos if_neg List.mapM_cons List.mapM_nil Option.pure_def Option.bind_eq_bind Option.bind_some Bool.true_eq_false Bool.not_false Bool.not_true get_concat set_concat
open Go.Proofs
open Go.Abs.B
set_option linter.unusedVariables false
set_option linter.unusedSimpArgs false
set_option maxRecDepth 100000
set_option maxHeartbeats 16000000
def hashP (pw salt : List Int) (M Ps L n : Nat) : List Int := if L = 1 then hash1 pw salt M Ps n else hash2 pw salt M Ps n
theorem refFst (F : List Int) (l i : Int) (cx : Option Nat) (hF : F.length = 64) (h8 : B8 F) :
    PCall Tryd.prog glob 20 [.vsl 3 [blkC F, .vsl 8 (ints .u8 (leN 8 l)) none, .vsl 8 (ints .u8 (leN 8 i)) none] cx] (blkC (fst2 F l i)) := by
  have hr : Rws [blkC F, .vsl 8 (ints .u8 (leN 8 l)) none, .vsl 8 (ints .u8 (leN 8 i)) none] [F, leN 8 l, leN 8 i] := Rws.cons hF (Rws.cons (leN_length _ _) (Rws.cons (leN_length _ _) Rws.nil))
  exact refSumC_p _ cx [F, leN 8 l, leN 8 i] hr (by simp) (fun r hr => by
    have h := leN_length
    simp at hr
    rcases hr with rfl | rfl | rfl
    · omega
    · rw [h]; omega
    · rw [h]; omega) (fun r hr => by simp at hr; rcases hr with rfl | rfl | rfl; exact h8; exact leN_bytes 8 _; exact leN_bytes 8 _)
theorem idx_lt {l L M i : Nat} (hl : l < L) (hi : i < M) : l * M + i < L * M := by
  have h := Nat.mul_le_mul_right M (show l + 1 ≤ L from hl)
  rw [Nat.succ_mul] at h
  omega
theorem mulN (a b : Nat) : (a : Int) * (b : Int) = ((a * b : Nat) : Int) := (Int.natCast_mul a b).symm
theorem refHash_p (pw salt : List Int) (c1 c2 : Option Nat) (M Ps L n : Nat) (R : Int) (hM : 4 ≤ M ∧ M ≤ 64) (hP : 1 ≤ Ps ∧ Ps ≤ 4) (hL : L = 1 ∨ L = 2) (hn : 1 ≤ n ∧ n ≤ 64) (hp : pw.length ≤ 200) (hs : salt.length ≤ 200) (bp : B8 pw) (bs : B8 salt) :
    PCall Tryd.prog glob 10 [.vsl pw.length (ints .u8 pw) c1, .vsl salt.length (ints .u8 salt) c2, cv M Ps L R, iv n] (.vsl n (ints .u8 (hashP pw salt M Ps L n)) none) := by
  refine PCall.of ctx.nr (List.forall_mem_cons.2 ⟨NR.vsl (NR.ints _ _), List.forall_mem_cons.2 ⟨NR.vsl (NR.ints _ _), List.forall_mem_cons.2 ⟨NR.cv _ _ _ _, List.forall_mem_cons.2 ⟨NR.v _, fun _ h => absurd h List.not_mem_nil⟩⟩⟩⟩) (NR.vsl (NR.ints _ _)) ?_
  refine lcall10 (by simp) 0 (Nat.le_refl _) ?_
  unfold lc10
  simp only [List.length_cons, List.length_nil, Nat.reduceAdd, Nat.reduceSub, List.replicate_succ, List.replicate_zero, List.cons_append, List.nil_append]
  obtain ⟨F, hF⟩ : ∃ F, firstC pw salt M Ps L n = F := ⟨_, rfl⟩
  have hFl : F.length = 64 := by rw [← hF]; exact sumC_length _
  have hF8 : B8 F := by rw [← hF]; exact sumC_b8 _
  have hL2 : 1 ≤ L ∧ L ≤ 2 := by omega
  obtain ⟨N, hN⟩ : ∃ N, L * M = N := ⟨_, rfl⟩
  have hNb : N ≤ 128 := by rw [← hN]; exact Nat.mul_le_mul hL2.2 hM.2
  have ea := refEight_p (M : Int) (by omega) (by omega)
  have eb := refEight_p (Ps : Int) (by omega) (by omega)
  have ec := refEight_p (L : Int) (by omega) (by omega)
  have ed := refEight_p (n : Int) (by omega) (by omega)
  have e1 := refEight_p 1 (by decide) (by decide)
  have e0 := refEight_p 0 (by decide) (by decide)
  have i1 : IntKind.i64.wrap (0 + 1) = 1 := by decide
  have i2 : IntKind.i64.wrap (1 + 1) = 2 := by decide
  have i3 : IntKind.i64.wrap (2 + 1) = 3 := by decide
  have i4 : IntKind.i64.wrap (3 + 1) = 4 := by decide
  have i5 : IntKind.i64.wrap (4 + 1) = 5 := by decide
  have tk : ∀ (l : List Int) (n : Nat), l.length = n → List.take n (ints .u8 l) = ints .u8 l := fun l n h => List.take_of_length_le (by rw [ints_length]; omega)
  have z1 : (leN 8 (M : Int)).length = 8 := leN_length _ _
  have z2 : (leN 8 (M : Int) ++ leN 8 (Ps : Int)).length = 16 := by simp [leN_length]
  have z3 : (leN 8 (M : Int) ++ leN 8 (Ps : Int) ++ leN 8 (L : Int)).length = 24 := by simp [leN_length]
  have z4 : (leN 8 (M : Int) ++ leN 8 (Ps : Int) ++ leN 8 (L : Int) ++ leN 8 (n : Int)).length = 32 := by simp [leN_length]
  have t1 := tk _ _ z1
  have t2 := tk _ _ z2
  have t3 := tk _ _ z3
  have t4 := tk _ _ z4
  have five5 : ∀ a b c d e : Int, (((((List.replicate 5 (0 : Int)).set 0 a).set 1 b).set 2 c).set 3 d).set 4 e = [a, b, c, d, e] := fun _ _ _ _ _ => rfl
  have three : ∀ x y z : AV, ((((List.replicate 3 (AV.v (Value.slice none 0 0))).set 0 x).set 1 y).set 2 z) = [x, y, z] := fun _ _ _ => rfl
  have two : ∀ x y : AV, (((List.replicate 2 (AV.v (Value.slice none 0 0))).set 0 x).set 1 y) = [x, y] := fun _ _ => rfl
  have one : ∀ x : AV, (List.replicate 1 (AV.v (Value.slice none 0 0))).set 0 x = [x] := fun _ => rfl
  repeat (first
    | (with_reducible refine lops_step fun K hK => ?_; simp (disch := first | omega | (simp only [go_sem, isRow, isFlat, Option.isSome_some]; done) | assumption | (simp only [ints_length, List.length_replicate, List.length_set, List.length_append, List.length_take, List.length_drop, List.length_cons, List.length_nil] <;> omega) | fail) only [go_sem, Nat.reduceAdd, Nat.reduceSub, reduceIte, Nat.reduceEqDiff, Int.reduceToNat, Int.reduceBEq, Int.reduceBNe, five5]; (try (first | (refine And.intro (fun _ => ?_) (fun h => absurd h (by decide))) | (refine And.intro (fun h => absurd h (by decide)) (fun _ => ?_)))); (repeat (with_reducible refine And.intro (by first | omega | rfl | assumption | decide) ?_)); (first | (refine hK _ _ ?_) | (refine ⟨_, rfl, hK _ _ ?_⟩) | (refine Or.inr (hK _ _ ?_)) | (refine Or.inr ⟨rfl, hK _ _ ?_⟩)); clear hK K)
    | (with_reducible refine lops_nil ?_)
    | (with_reducible refine lavc_reg ?_)
    | (with_reducible refine lavc_seq ?_)
    | (with_reducible refine lavc_block ?_)
    | (with_reducible refine lavc_skip ?_)
    | (with_reducible refine lavc_exit ?_)
    | (with_reducible refine lavc_ret ?_)
    | (with_reducible refine lavcR_round ?_)
    | (refine lavc_cond rfl (fun _ => ?_) (fun hc => absurd hc (by decide)))
    | (refine lavc_cond rfl (fun hc => absurd hc (by decide)) (fun _ => ?_))
    | (simp only [↓reduceIte, Nat.reduceEqDiff, reduceCtorEq]))
  refine lavc_rounds 6 ?_
  repeat (first
    | (with_reducible refine lops_step fun K hK => ?_; simp (disch := first | omega | (simp only [go_sem, isRow, isFlat, Option.isSome_some]; done) | assumption | (simp only [ints_length, List.length_replicate, List.length_set, List.length_append, List.length_take, List.length_drop, List.length_cons, List.length_nil] <;> omega) | fail) only [go_sem, Nat.reduceAdd, Nat.reduceSub, reduceIte, Nat.reduceEqDiff, Int.reduceToNat, Int.reduceBEq, Int.reduceBNe, five5, leN_length, List.length_append, Nat.reduceAdd, i1, i2, i3, i4, i5, List.getD_cons_zero, List.getD_cons_succ, ints_append, t1, t2, t3, t4]; (try (first | (refine And.intro (fun _ => ?_) (fun h => absurd h (by decide))) | (refine And.intro (fun h => absurd h (by decide)) (fun _ => ?_)))); (repeat (with_reducible refine And.intro (by first | omega | rfl | assumption | decide) ?_)); (first | (refine hK _ _ ?_) | (refine ⟨_, rfl, hK _ _ ?_⟩) | (refine Or.inr (hK _ _ ?_)) | (refine Or.inr ⟨rfl, hK _ _ ?_⟩) | (refine ⟨_, _, Or.inl (ea.go _), (by first | exact ⟨[], (List.append_nil _).symm⟩ | exact ⟨_, rfl⟩), hK _ _ ?_⟩) | (refine ⟨_, _, Or.inl (ea.go _), hK _ _ ?_⟩) | (refine ⟨_, _, Or.inl (ea.go _).weakQ, hK _ _ ?_⟩) | (refine ⟨_, _, Or.inl (eb.go _), (by first | exact ⟨[], (List.append_nil _).symm⟩ | exact ⟨_, rfl⟩), hK _ _ ?_⟩) | (refine ⟨_, _, Or.inl (eb.go _), hK _ _ ?_⟩) | (refine ⟨_, _, Or.inl (eb.go _).weakQ, hK _ _ ?_⟩) | (refine ⟨_, _, Or.inl (ec.go _), (by first | exact ⟨[], (List.append_nil _).symm⟩ | exact ⟨_, rfl⟩), hK _ _ ?_⟩) | (refine ⟨_, _, Or.inl (ec.go _), hK _ _ ?_⟩) | (refine ⟨_, _, Or.inl (ec.go _).weakQ, hK _ _ ?_⟩) | (refine ⟨_, _, Or.inl (ed.go _), (by first | exact ⟨[], (List.append_nil _).symm⟩ | exact ⟨_, rfl⟩), hK _ _ ?_⟩) | (refine ⟨_, _, Or.inl (ed.go _), hK _ _ ?_⟩) | (refine ⟨_, _, Or.inl (ed.go _).weakQ, hK _ _ ?_⟩) | (refine ⟨_, _, Or.inl (e1.go _), (by first | exact ⟨[], (List.append_nil _).symm⟩ | exact ⟨_, rfl⟩), hK _ _ ?_⟩) | (refine ⟨_, _, Or.inl (e1.go _), hK _ _ ?_⟩) | (refine ⟨_, _, Or.inl (e1.go _).weakQ, hK _ _ ?_⟩)); clear hK K)
    | (with_reducible refine lops_nil ?_)
    | (with_reducible refine lavc_reg ?_)
    | (with_reducible refine lavc_seq ?_)
    | (with_reducible refine lavc_block ?_)
    | (with_reducible refine lavc_skip ?_)
    | (with_reducible refine lavc_exit ?_)
    | (with_reducible refine lavc_ret ?_)
    | (with_reducible refine lavcR_round ?_)
    | (refine lavc_cond rfl (fun _ => ?_) (fun hc => absurd hc (by decide)))
    | (refine lavc_cond rfl (fun hc => absurd hc (by decide)) (fun _ => ?_))
    | (simp only [↓reduceIte, Nat.reduceEqDiff, reduceCtorEq]))
  have h40 : (leN 8 (M : Int) ++ leN 8 (Ps : Int) ++ leN 8 (L : Int) ++ leN 8 (n : Int) ++ leN 8 1).length = 40 := five_length _ _ _ _ _
  have t5 := tk _ _ h40
  have sp : PCall Tryd.prog glob 20 [.vsl 3 [.vsl 40 (ints .u8 (leN 8 (M : Int) ++ leN 8 (Ps : Int) ++ leN 8 (L : Int) ++ leN 8 (n : Int) ++ leN 8 1)) none, .vsl pw.length (ints .u8 pw) c1, .vsl salt.length (ints .u8 salt) c2] (some 3)] (blkC F) := by
    rw [← hF]
    exact refSumC_p _ (some 3) [five M Ps L n 1, pw, salt] (Rws.cons (five_length _ _ _ _ _) (Rws.cons rfl (Rws.cons rfl Rws.nil))) (by simp) (fun r hr => by
      have h := five_length M Ps L n 1
      simp at hr
      rcases hr with rfl | rfl | rfl <;> omega) (fun r hr => by
      simp at hr
      rcases hr with rfl | rfl | rfl
      · exact five_b8 _ _ _ _ _
      · exact bp
      · exact bs)
  refine lops_fz [2] ?_
  simp (disch := first | omega | (simp only [go_sem, isRow, isFlat, Option.isSome_some]; done) | assumption | (simp only [ints_length, List.length_replicate, List.length_set, List.length_append, List.length_take, List.length_drop, List.length_cons, List.length_nil] <;> omega) | fail) only [afz, fzV, fzS, fz_ints, List.map_cons, List.map_nil, List.getElem?_cons_zero, List.getElem?_cons_succ, List.set_cons_zero, List.set_cons_succ, ints_length, true_and, and_true, and_self, if_true, if_false, ↓reduceIte, Nat.reduceEqDiff, Nat.reduceLeDiff, Nat.reduceMul, Nat.reduceAdd, Nat.zero_add, Nat.mul_one, Nat.le_refl, List.length_replicate, List.drop_zero, ints_drop, ints_take, List.take_of_length_le, false_and, and_false, reduceCtorEq, Bool.false_eq_true, forall_const, if_pos, if_neg, h40, t5]
  (repeat (with_reducible refine And.intro (by first | omega | rfl | assumption | decide) ?_))
  intro K hK
  simp (disch := first | omega | (simp only [go_sem, isRow, isFlat, Option.isSome_some]; done) | assumption | (simp only [ints_length, List.length_replicate, List.length_set, List.length_append, List.length_take, List.length_drop, List.length_cons, List.length_nil] <;> omega) | fail) only [go_sem, Nat.reduceAdd, Nat.reduceSub, reduceIte, Nat.reduceEqDiff, Int.reduceToNat, Int.reduceBEq, Int.reduceBNe, h40, t5]
  refine ⟨_, _, Or.inl (sp.go _).weakQ, hK _ _ ?_⟩
  clear hK K
  obtain ⟨V, hV⟩ : ∃ V, leN 8 (M : Int) ++ leN 8 (Ps : Int) ++ leN 8 (L : Int) ++ leN 8 (n : Int) ++ leN 8 1 = V := ⟨_, rfl⟩
  rw [hV]
  have y0 : IntKind.i64.wrap ((L : Int) * (M : Int)) = (N : Int) := i64n _ _ (by rw [mulN, hN]) (by omega)
  have nf : (List.replicate N [AV.v (Value.slice none 0 0)]).flatten = fl L M (st0 F 0) := by rw [nil_flat, fl_nil L M hL F, hN]
  repeat (first
    | (with_reducible refine lops_step fun K hK => ?_; simp (disch := first | omega | (simp only [go_sem, isRow, isFlat, Option.isSome_some]; done) | assumption | (simp only [ints_length, List.length_replicate, List.length_set, List.length_append, List.length_take, List.length_drop, List.length_cons, List.length_nil] <;> omega) | fail) only [go_sem, Nat.reduceAdd, Nat.reduceSub, reduceIte, Nat.reduceEqDiff, Int.reduceToNat, Int.reduceBEq, Int.reduceBNe, y0, nf]; (try (first | (refine And.intro (fun _ => ?_) (fun h => absurd h (by decide))) | (refine And.intro (fun h => absurd h (by decide)) (fun _ => ?_)))); (repeat (with_reducible refine And.intro (by first | omega | rfl | assumption | decide) ?_)); (first | (refine hK _ _ ?_) | (refine ⟨_, rfl, hK _ _ ?_⟩) | (refine Or.inl (hK _ _ ?_))); clear hK K)
    | (with_reducible refine lops_nil ?_)
    | (with_reducible refine lavc_reg ?_)
    | (with_reducible refine lavc_seq ?_)
    | (with_reducible refine lavc_block ?_)
    | (with_reducible refine lavc_skip ?_)
    | (with_reducible refine lavc_exit ?_)
    | (with_reducible refine lavc_ret ?_)
    | (with_reducible refine lavcR_round ?_)
    | (refine lavc_cond rfl (fun _ => ?_) (fun hc => absurd hc (by decide)))
    | (refine lavc_cond rfl (fun hc => absurd hc (by decide)) (fun _ => ?_))
    | (simp only [↓reduceIte, Nat.reduceEqDiff, reduceCtorEq]))
  refine lavc_loopM ms10_1 (fun m (l : Nat) => m + l = L) (fun l => [(14, iv l)]) (fun l => [Blk.mk [iv M, iv Ps, iv L, iv R] 0 true 25, Blk.mk (ints .i64 [(M : Int), (Ps : Int), (L : Int), (n : Int), 1]) 0 true 46, Blk.mk (ints .u8 V) 4 false 5, Blk.mk (fl L M (st0 F l)) 0 true 22]) L 0 (by omega) ?_ ?_ ?_
  · simp only [ms10_1, putAll, blank, List.foldl_cons, List.foldl_nil, List.set_cons_succ, List.set_cons_zero, List.cons_append, List.nil_append, ALe, true_or, or_true, and_true, true_and, eq_self, reduceCtorEq, false_or]
    rfl
  · rfl
  rintro m l hl
  simp only [ms10_1, putAll, blank, List.foldl_cons, List.foldl_nil, List.set_cons_succ, List.set_cons_zero, List.cons_append, List.nil_append]
  repeat (first
    | (with_reducible refine lops_step fun K hK => ?_; simp (disch := first | omega | (simp only [go_sem, isRow, isFlat, Option.isSome_some]; done) | assumption | (simp only [ints_length, List.length_replicate, List.length_set, List.length_append, List.length_take, List.length_drop, List.length_cons, List.length_nil] <;> omega) | fail) only [go_sem, Nat.reduceAdd, Nat.reduceSub, reduceIte, Nat.reduceEqDiff, Int.reduceToNat, Int.reduceBEq, Int.reduceBNe]; (repeat (with_reducible refine And.intro (by first | omega | rfl | assumption | decide) ?_)); (first | (refine hK _ _ ?_) | (refine ⟨_, rfl, hK _ _ ?_⟩) | (refine Or.inl (hK _ _ ?_))); clear hK K)
    | (with_reducible refine lops_nil ?_)
    | (with_reducible refine lavc_reg ?_)
    | (with_reducible refine lavc_seq ?_)
    | (with_reducible refine lavc_block ?_)
    | (with_reducible refine lavc_skip ?_)
    | (with_reducible refine lavc_exit ?_)
    | (with_reducible refine lavc_ret ?_)
    | (with_reducible refine lavcR_round ?_)
    | (simp only [↓reduceIte, Nat.reduceEqDiff, reduceCtorEq]))
  refine lavc_cond rfl (fun hc => ?_) (fun hc => ?_) <;> try simp only [decide_eq_true_eq, decide_eq_false_iff_not, Int.not_lt, Int.not_le, beq_iff_eq, bne_iff_ne, bne_eq_false_iff_eq, beq_eq_false_iff_ne, ne_eq, Bool.not_eq_true', Bool.not_eq_false'] at hc
  · obtain ⟨at0, hat⟩ : ∃ a, l * M = a := ⟨_, rfl⟩
    have el := refEight_p (l : Int) (by omega) (by omega)
    have s0 := fun c => refFst F l 0 c hFl hF8
    have s1 := fun c => refFst F l 1 c hFl hF8
    have x0 := i64n ((l : Int) * (M : Int)) at0 (by rw [mulN, hat]) (by have := idx_lt (show l < L by omega) (show 0 < M by omega); omega)
    have x1 := i64n ((at0 : Int) + 1) (at0 + 1) (by omega) (by have := idx_lt (show l < L by omega) (show 0 < M by omega); omega)
    have x2 := i64n ((l : Int) + 1) (l + 1) (by omega) (by omega)
    have b0 : at0 < N := by have := idx_lt (show l < L by omega) (show 0 < M by omega); omega
    have b1 : at0 + 1 < N := by have := idx_lt (show l < L by omega) (show 1 < M by omega); omega
    have k0 := st0_ok F l M (by omega) (by omega)
    have kp := st0_pick F l (by omega)
    have f1 := fl_add L M (st0 F l) hL k0.1 (show l < L by omega) (i := 0) (by rw [kp]; rfl) (by omega) (fst2 F l 0)
    have k1 := put2_lens (st0 F l) l (pick2 (st0 F l) l ++ [fst2 F l 0]) k0.1 k0.2 (by rw [kp]; show 1 ≤ M; omega)
    have f2 := fl_add L M (put2 (st0 F l) l (pick2 (st0 F l) l ++ [fst2 F l 0])) hL k1.1 (show l < L by omega) (i := 1) (by rw [pick2_put2, kp]; rfl) (by omega) (fst2 F l 1)
    have e2 : put2 (put2 (st0 F l) l (pick2 (st0 F l) l ++ [fst2 F l 0])) l (pick2 (put2 (st0 F l) l (pick2 (st0 F l) l ++ [fst2 F l 0])) l ++ [fst2 F l 1]) = st0 F (l + 1) := by
      rw [pick2_put2, put2_put2, kp]
      exact st0_step F l (by omega)
    rw [e2] at f2
    have w0 := fl_len L M (st0 F l) hL k0.1 k0.2
    have w1 := fl_len L M _ hL k1.1 k1.2
    obtain ⟨Z0, hZ0⟩ : ∃ Z, fl L M (st0 F l) = Z := ⟨_, rfl⟩
    obtain ⟨Z1, hZ1⟩ : ∃ Z, fl L M (put2 (st0 F l) l (pick2 (st0 F l) l ++ [fst2 F l 0])) = Z := ⟨_, rfl⟩
    rw [hZ0, hN] at w0
    rw [hZ1, hN] at w1
    rw [hZ0, hZ1, hat, Nat.add_zero] at f1
    rw [hZ1, hat] at f2
    rw [hZ0]
    have l1 : ∀ x : AV, (Z0.set at0 x).length = N := fun x => by rw [List.length_set, w0]
    repeat (first
      | (with_reducible refine lops_step fun K hK => ?_; simp (disch := first | omega | (simp only [go_sem, isRow, isFlat, Option.isSome_some]; done) | assumption | (simp only [ints_length, List.length_replicate, List.length_set, List.length_append, List.length_take, List.length_drop, List.length_cons, List.length_nil] <;> omega) | fail) only [go_sem, Nat.reduceAdd, Nat.reduceSub, reduceIte, Nat.reduceEqDiff, Int.reduceToNat, Int.reduceBEq, Int.reduceBNe, three, x0, x1, x2, w0, w1, f1, f2, hN]; (try (first | (refine And.intro (fun _ => ?_) (fun h => absurd h (by decide))) | (refine And.intro (fun h => absurd h (by decide)) (fun _ => ?_)))); (repeat (with_reducible refine And.intro (by first | omega | rfl | assumption | decide) ?_)); (first | (refine hK _ _ ?_) | (refine ⟨_, rfl, hK _ _ ?_⟩) | (refine Or.inr (hK _ _ ?_)) | (refine Or.inr ⟨rfl, hK _ _ ?_⟩) | (refine ⟨_, _, Or.inl (el.go _), (by first | exact ⟨[], (List.append_nil _).symm⟩ | exact ⟨_, rfl⟩), hK _ _ ?_⟩) | (refine ⟨_, _, Or.inl (el.go _), hK _ _ ?_⟩) | (refine ⟨_, _, Or.inl (el.go _).weakQ, hK _ _ ?_⟩) | (refine ⟨_, _, Or.inl (e0.go _), (by first | exact ⟨[], (List.append_nil _).symm⟩ | exact ⟨_, rfl⟩), hK _ _ ?_⟩) | (refine ⟨_, _, Or.inl (e0.go _), hK _ _ ?_⟩) | (refine ⟨_, _, Or.inl (e0.go _).weakQ, hK _ _ ?_⟩) | (refine ⟨_, _, Or.inl (e1.go _), (by first | exact ⟨[], (List.append_nil _).symm⟩ | exact ⟨_, rfl⟩), hK _ _ ?_⟩) | (refine ⟨_, _, Or.inl (e1.go _), hK _ _ ?_⟩) | (refine ⟨_, _, Or.inl (e1.go _).weakQ, hK _ _ ?_⟩) | (refine ⟨_, _, Or.inl ((s0 _).go _), (by first | exact ⟨[], (List.append_nil _).symm⟩ | exact ⟨_, rfl⟩), hK _ _ ?_⟩) | (refine ⟨_, _, Or.inl ((s0 _).go _), hK _ _ ?_⟩) | (refine ⟨_, _, Or.inl ((s0 _).go _).weakQ, hK _ _ ?_⟩) | (refine ⟨_, _, Or.inl ((s1 _).go _), (by first | exact ⟨[], (List.append_nil _).symm⟩ | exact ⟨_, rfl⟩), hK _ _ ?_⟩) | (refine ⟨_, _, Or.inl ((s1 _).go _), hK _ _ ?_⟩) | (refine ⟨_, _, Or.inl ((s1 _).go _).weakQ, hK _ _ ?_⟩)); clear hK K)
      | (with_reducible refine lops_nil ?_)
      | (with_reducible refine lavc_reg ?_)
      | (with_reducible refine lavc_seq ?_)
      | (with_reducible refine lavc_block ?_)
      | (with_reducible refine lavc_skip ?_)
      | (with_reducible refine lavc_exit ?_)
      | (with_reducible refine lavc_ret ?_)
      | (with_reducible refine lavcR_round ?_)
      | (refine lavc_cond rfl (fun _ => ?_) (fun hc => absurd hc (by decide)))
      | (refine lavc_cond rfl (fun hc => absurd hc (by decide)) (fun _ => ?_))
      | (simp only [↓reduceIte, Nat.reduceEqDiff, reduceCtorEq]))
    refine ⟨m - 1, l + 1, by omega, by show m - 1 + (l + 1) = L; omega, ?_, ?_⟩
    · simp only [ms10_1, putAll, blank, List.foldl_cons, List.foldl_nil, List.set_cons_succ, List.set_cons_zero, List.cons_append, List.nil_append, ALe, true_or, or_true, and_true, true_and, eq_self, reduceCtorEq, false_or]
    · rfl
  obtain rfl : L = l := by omega
  repeat (first
    | (with_reducible refine lops_step fun K hK => ?_; simp (disch := first | omega | (simp only [go_sem, isRow, isFlat, Option.isSome_some]; done) | assumption | (simp only [ints_length, List.length_replicate, List.length_set, List.length_append, List.length_take, List.length_drop, List.length_cons, List.length_nil] <;> omega) | fail) only [go_sem, Nat.reduceAdd, Nat.reduceSub, reduceIte, Nat.reduceEqDiff, Int.reduceToNat, Int.reduceBEq, Int.reduceBNe]; (try (first | (refine And.intro (fun _ => ?_) (fun h => absurd h (by decide))) | (refine And.intro (fun h => absurd h (by decide)) (fun _ => ?_)))); (repeat (with_reducible refine And.intro (by first | omega | rfl | assumption | decide) ?_)); (first | (refine hK _ _ ?_) | (refine ⟨_, rfl, hK _ _ ?_⟩) | (refine Or.inl (hK _ _ ?_))); clear hK K)
    | (with_reducible refine lops_nil ?_)
    | (with_reducible refine lavc_reg ?_)
    | (with_reducible refine lavc_seq ?_)
    | (with_reducible refine lavc_block ?_)
    | (with_reducible refine lavc_skip ?_)
    | (with_reducible refine lavc_exit ?_)
    | (with_reducible refine lavc_ret ?_)
    | (with_reducible refine lavcR_round ?_)
    | (refine lavc_cond rfl (fun _ => ?_) (fun hc => absurd hc (by decide)))
    | (refine lavc_cond rfl (fun hc => absurd hc (by decide)) (fun _ => ?_))
    | (simp only [↓reduceIte, Nat.reduceEqDiff, reduceCtorEq]))
  refine lavc_loopM ms10_2 (fun m (x : Nat × Lns) => m + x.1 = Ps ∧ x.2 = stg L F M x.1 ∧ Wl L M x.1 0 0 x.2) (fun x => [(15, iv x.1)]) (fun x => [Blk.mk [iv M, iv Ps, iv L, iv R] 0 true 25, Blk.mk (ints .i64 [(M : Int), (Ps : Int), (L : Int), (n : Int), 1]) 0 true 46, Blk.mk (ints .u8 V) 4 false 5, Blk.mk (fl L M x.2) 0 true 22]) Ps (0, st0 F L) ⟨by omega, rfl, Wl.begin F hL (by omega)⟩ ?_ ?_ ?_
  · simp only [ms10_2, putAll, blank, List.foldl_cons, List.foldl_nil, List.set_cons_succ, List.set_cons_zero, List.cons_append, List.nil_append, ALe, true_or, or_true, and_true, true_and, eq_self, reduceCtorEq, false_or]
    rfl
  · rfl
  rintro m ⟨p, Zp⟩ ⟨hpm, hZp, hWp⟩
  simp only at hpm hZp hWp ⊢
  simp only [ms10_2, putAll, blank, List.foldl_cons, List.foldl_nil, List.set_cons_succ, List.set_cons_zero, List.cons_append, List.nil_append]
  repeat (first
    | (with_reducible refine lops_step fun K hK => ?_; simp (disch := first | omega | (simp only [go_sem, isRow, isFlat, Option.isSome_some]; done) | assumption | (simp only [ints_length, List.length_replicate, List.length_set, List.length_append, List.length_take, List.length_drop, List.length_cons, List.length_nil] <;> omega) | fail) only [go_sem, Nat.reduceAdd, Nat.reduceSub, reduceIte, Nat.reduceEqDiff, Int.reduceToNat, Int.reduceBEq, Int.reduceBNe]; (repeat (with_reducible refine And.intro (by first | omega | rfl | assumption | decide) ?_)); (first | (refine hK _ _ ?_) | (refine ⟨_, rfl, hK _ _ ?_⟩) | (refine Or.inl (hK _ _ ?_))); clear hK K)
    | (with_reducible refine lops_nil ?_)
    | (with_reducible refine lavc_reg ?_)
    | (with_reducible refine lavc_seq ?_)
    | (with_reducible refine lavc_block ?_)
    | (with_reducible refine lavc_skip ?_)
    | (with_reducible refine lavc_exit ?_)
    | (with_reducible refine lavc_ret ?_)
    | (with_reducible refine lavcR_round ?_)
    | (simp only [↓reduceIte, Nat.reduceEqDiff, reduceCtorEq]))
  refine lavc_cond rfl (fun hc => ?_) (fun hc => ?_) <;> try simp only [decide_eq_true_eq, decide_eq_false_iff_not, Int.not_lt, Int.not_le, beq_iff_eq, bne_iff_ne, bne_eq_false_iff_eq, beq_eq_false_iff_ne, ne_eq, Bool.not_eq_true', Bool.not_eq_false'] at hc
  · have hpe := i64n ((p : Int) + 1) (p + 1) (by omega) (by omega)
    repeat (first
      | (with_reducible refine lops_step fun K hK => ?_; simp (disch := first | omega | (simp only [go_sem, isRow, isFlat, Option.isSome_some]; done) | assumption | (simp only [ints_length, List.length_replicate, List.length_set, List.length_append, List.length_take, List.length_drop, List.length_cons, List.length_nil] <;> omega) | fail) only [go_sem, Nat.reduceAdd, Nat.reduceSub, reduceIte, Nat.reduceEqDiff, Int.reduceToNat, Int.reduceBEq, Int.reduceBNe]; (try (first | (refine And.intro (fun _ => ?_) (fun h => absurd h (by decide))) | (refine And.intro (fun h => absurd h (by decide)) (fun _ => ?_)))); (repeat (with_reducible refine And.intro (by first | omega | rfl | assumption | decide) ?_)); (first | (refine hK _ _ ?_) | (refine ⟨_, rfl, hK _ _ ?_⟩) | (refine Or.inl (hK _ _ ?_))); clear hK K)
      | (with_reducible refine lops_nil ?_)
      | (with_reducible refine lavc_reg ?_)
      | (with_reducible refine lavc_seq ?_)
      | (with_reducible refine lavc_block ?_)
      | (with_reducible refine lavc_skip ?_)
      | (with_reducible refine lavc_exit ?_)
      | (with_reducible refine lavc_ret ?_)
      | (with_reducible refine lavcR_round ?_)
      | (refine lavc_cond rfl (fun _ => ?_) (fun hc => absurd hc (by decide)))
      | (refine lavc_cond rfl (fun hc => absurd hc (by decide)) (fun _ => ?_))
      | (simp only [↓reduceIte, Nat.reduceEqDiff, reduceCtorEq]))
    refine lavc_loopM ms10_3 (fun m (x : Nat × Lns) => m + x.1 = L ∧ x.2 = lan L M p x.1 Zp ∧ Wl L M p x.1 0 x.2) (fun x => [(16, iv x.1)]) (fun x => [Blk.mk [iv M, iv Ps, iv L, iv R] 0 true 25, Blk.mk (ints .i64 [(M : Int), (Ps : Int), (L : Int), (n : Int), 1]) 0 true 46, Blk.mk (ints .u8 V) 4 false 5, Blk.mk (fl L M x.2) 0 true 22]) L (0, Zp) ⟨by omega, rfl, hWp⟩ ?_ ?_ ?_
    · simp only [ms10_3, putAll, blank, List.foldl_cons, List.foldl_nil, List.set_cons_succ, List.set_cons_zero, List.cons_append, List.nil_append, ALe, true_or, or_true, and_true, true_and, eq_self, reduceCtorEq, false_or]
      rfl
    · rfl
    rintro m1 ⟨l, Zl⟩ ⟨hlm, hZl, hWl⟩
    simp only at hlm hZl hWl ⊢
    simp only [ms10_3, putAll, blank, List.foldl_cons, List.foldl_nil, List.set_cons_succ, List.set_cons_zero, List.cons_append, List.nil_append]
    repeat (first
      | (with_reducible refine lops_step fun K hK => ?_; simp (disch := first | omega | (simp only [go_sem, isRow, isFlat, Option.isSome_some]; done) | assumption | (simp only [ints_length, List.length_replicate, List.length_set, List.length_append, List.length_take, List.length_drop, List.length_cons, List.length_nil] <;> omega) | fail) only [go_sem, Nat.reduceAdd, Nat.reduceSub, reduceIte, Nat.reduceEqDiff, Int.reduceToNat, Int.reduceBEq, Int.reduceBNe]; (repeat (with_reducible refine And.intro (by first | omega | rfl | assumption | decide) ?_)); (first | (refine hK _ _ ?_) | (refine ⟨_, rfl, hK _ _ ?_⟩) | (refine Or.inl (hK _ _ ?_))); clear hK K)
      | (with_reducible refine lops_nil ?_)
      | (with_reducible refine lavc_reg ?_)
      | (with_reducible refine lavc_seq ?_)
      | (with_reducible refine lavc_block ?_)
      | (with_reducible refine lavc_skip ?_)
      | (with_reducible refine lavc_exit ?_)
      | (with_reducible refine lavc_ret ?_)
      | (with_reducible refine lavcR_round ?_)
      | (simp only [↓reduceIte, Nat.reduceEqDiff, reduceCtorEq]))
    refine lavc_cond rfl (fun hc => ?_) (fun hc => ?_) <;> try simp only [decide_eq_true_eq, decide_eq_false_iff_not, Int.not_lt, Int.not_le, beq_iff_eq, bne_iff_ne, bne_eq_false_iff_eq, beq_eq_false_iff_ne, ne_eq, Bool.not_eq_true', Bool.not_eq_false'] at hc
    · have hle := i64n ((l : Int) + 1) (l + 1) (by omega) (by omega)
      repeat (first
        | (with_reducible refine lops_step fun K hK => ?_; simp (disch := first | omega | (simp only [go_sem, isRow, isFlat, Option.isSome_some]; done) | assumption | (simp only [ints_length, List.length_replicate, List.length_set, List.length_append, List.length_take, List.length_drop, List.length_cons, List.length_nil] <;> omega) | fail) only [go_sem, Nat.reduceAdd, Nat.reduceSub, reduceIte, Nat.reduceEqDiff, Int.reduceToNat, Int.reduceBEq, Int.reduceBNe]; (try (first | (refine And.intro (fun _ => ?_) (fun h => absurd h (by decide))) | (refine And.intro (fun h => absurd h (by decide)) (fun _ => ?_)))); (repeat (with_reducible refine And.intro (by first | omega | rfl | assumption | decide) ?_)); (first | (refine hK _ _ ?_) | (refine ⟨_, rfl, hK _ _ ?_⟩) | (refine Or.inl (hK _ _ ?_))); clear hK K)
        | (with_reducible refine lops_nil ?_)
        | (with_reducible refine lavc_reg ?_)
        | (with_reducible refine lavc_seq ?_)
        | (with_reducible refine lavc_block ?_)
        | (with_reducible refine lavc_skip ?_)
        | (with_reducible refine lavc_exit ?_)
        | (with_reducible refine lavc_ret ?_)
        | (with_reducible refine lavcR_round ?_)
        | (refine lavc_cond rfl (fun _ => ?_) (fun hc => absurd hc (by decide)))
        | (refine lavc_cond rfl (fun hc => absurd hc (by decide)) (fun _ => ?_))
        | (simp only [↓reduceIte, Nat.reduceEqDiff, reduceCtorEq]))
      refine lavc_loopM ms10_4 (fun m (x : Nat × Lns) => m + x.1 = M ∧ x.2 = inn L M p l x.1 Zl ∧ Wl L M p l x.1 x.2) (fun x => [(17, iv x.1)]) (fun x => [Blk.mk [iv M, iv Ps, iv L, iv R] 0 true 25, Blk.mk (ints .i64 [(M : Int), (Ps : Int), (L : Int), (n : Int), 1]) 0 true 46, Blk.mk (ints .u8 V) 4 false 5, Blk.mk (fl L M x.2) 0 true 22]) M (0, Zl) ⟨by omega, (inn_zero L M p l Zl).symm, hWl⟩ ?_ ?_ ?_
      · simp only [ms10_4, putAll, blank, List.foldl_cons, List.foldl_nil, List.set_cons_succ, List.set_cons_zero, List.cons_append, List.nil_append, ALe, true_or, or_true, and_true, true_and, eq_self, reduceCtorEq, false_or]
        rfl
      · rfl
      rintro m2 ⟨i, Z⟩ ⟨him, hZ, hW⟩
      simp only at him hZ hW ⊢
      simp only [ms10_4, putAll, blank, List.foldl_cons, List.foldl_nil, List.set_cons_succ, List.set_cons_zero, List.cons_append, List.nil_append]
      have hie := i64n ((i : Int) + 1) (i + 1) (by omega) (by omega)
      have hlL : l < L := by omega
      repeat (first
        | (with_reducible refine lops_step fun K hK => ?_; simp (disch := first | omega | (simp only [go_sem, isRow, isFlat, Option.isSome_some]; done) | assumption | (simp only [ints_length, List.length_replicate, List.length_set, List.length_append, List.length_take, List.length_drop, List.length_cons, List.length_nil] <;> omega) | fail) only [go_sem, Nat.reduceAdd, Nat.reduceSub, reduceIte, Nat.reduceEqDiff, Int.reduceToNat, Int.reduceBEq, Int.reduceBNe]; (repeat (with_reducible refine And.intro (by first | omega | rfl | assumption | decide) ?_)); (first | (refine hK _ _ ?_) | (refine ⟨_, rfl, hK _ _ ?_⟩) | (refine Or.inl (hK _ _ ?_))); clear hK K)
        | (with_reducible refine lops_nil ?_)
        | (with_reducible refine lavc_reg ?_)
        | (with_reducible refine lavc_seq ?_)
        | (with_reducible refine lavc_block ?_)
        | (with_reducible refine lavc_skip ?_)
        | (with_reducible refine lavc_exit ?_)
        | (with_reducible refine lavc_ret ?_)
        | (with_reducible refine lavcR_round ?_)
        | (simp only [↓reduceIte, Nat.reduceEqDiff, reduceCtorEq]))
      refine lavc_cond rfl (fun hc => ?_) (fun hc => ?_) <;> try simp only [decide_eq_true_eq, decide_eq_false_iff_not, Int.not_lt, Int.not_le, beq_iff_eq, bne_iff_ne, bne_eq_false_iff_eq, beq_eq_false_iff_ne, ne_eq, Bool.not_eq_true', Bool.not_eq_false'] at hc
      · have hiM : i < M := by omega
        by_cases h2 : p = 0 ∧ i < 2
        · obtain ⟨rfl, h2⟩ := h2
          have z0 : (((0 : Nat) : Int) == 0) = true := rfl
          have d2 : decide ((i : Int) < 2) = true := by rw [decide_eq_true_eq]; omega
          repeat (first
            | (with_reducible refine lops_step fun K hK => ?_; simp (disch := first | omega | (simp only [go_sem, isRow, isFlat, Option.isSome_some]; done) | assumption | (simp only [ints_length, List.length_replicate, List.length_set, List.length_append, List.length_take, List.length_drop, List.length_cons, List.length_nil] <;> omega) | fail) only [go_sem, Nat.reduceAdd, Nat.reduceSub, reduceIte, Nat.reduceEqDiff, Int.reduceToNat, Int.reduceBEq, Int.reduceBNe, z0, d2, hie]; (try (first | (refine And.intro (fun _ => ?_) (fun h => absurd h (by decide))) | (refine And.intro (fun h => absurd h (by decide)) (fun _ => ?_)))); (repeat (with_reducible refine And.intro (by first | omega | rfl | assumption | decide) ?_)); (first | (refine hK _ _ ?_) | (refine ⟨_, rfl, hK _ _ ?_⟩) | (refine Or.inl (hK _ _ ?_))); clear hK K)
            | (with_reducible refine lops_nil ?_)
            | (with_reducible refine lavc_reg ?_)
            | (with_reducible refine lavc_seq ?_)
            | (with_reducible refine lavc_block ?_)
            | (with_reducible refine lavc_skip ?_)
            | (with_reducible refine lavc_exit ?_)
            | (with_reducible refine lavc_ret ?_)
            | (with_reducible refine lavcR_round ?_)
            | (refine lavc_cond rfl (fun _ => ?_) (fun hc => absurd hc (by decide)))
            | (refine lavc_cond rfl (fun hc => absurd hc (by decide)) (fun _ => ?_))
            | (simp only [↓reduceIte, Nat.reduceEqDiff, reduceCtorEq]))
          refine ⟨m2 - 1, (i + 1, Z), by omega, ⟨by show m2 - 1 + (i + 1) = M; omega, by show Z = _; rw [inn_small L M 0 l i Zl rfl h2]; exact hZ, hW.small h2⟩, ?_, ?_⟩
          · simp only [ms10_4, putAll, blank, List.foldl_cons, List.foldl_nil, List.set_cons_succ, List.set_cons_zero, List.cons_append, List.nil_append, ALe, true_or, or_true, and_true, true_and, eq_self, reduceCtorEq, false_or]
          · rfl
        · obtain ⟨at0, hat⟩ : ∃ a, l * M = a := ⟨_, rfl⟩
          have bnd : ∀ j, j < M → at0 + j < N := fun j hj => by
            have := idx_lt hlL hj
            omega
          have b0 := bnd 0 (by omega)
          have x0 := i64n ((l : Int) * (M : Int)) at0 (by rw [mulN, hat]) (by omega)
          have hlen := fl_len L M Z hL hW.1 hW.2.1
          rw [hN] at hlen
          have hgl := hW.2.2 l hlL
          have w1 := i64n ((i : Int) + (M : Int)) (i + M) (by omega) (by omega)
          have w2 := i64n (((i + M : Nat) : Int) - 1) (i + M - 1) (by omega) (by omega)
          have hneM : ((M : Nat) : Int) ≠ 0 := by omega
          have bi := bnd i hiM
          have w6 := i64n ((at0 : Int) + (i : Int)) (at0 + i) (by omega) (by omega)
          by_cases h0 : p = 0
          · subst h0
            have hi2 : 2 ≤ i := by omega
            have z0 : (((0 : Nat) : Int) == 0) = true := rfl
            have d2 : decide ((i : Int) < 2) = false := by rw [decide_eq_false_iff_not]; omega
            have hpl : (pick2 Z l).length = i := by
              have := hgl.2
              rw [if_pos rfl, if_neg (Nat.lt_irrefl _), if_pos rfl] at this
              omega
            have ct : (i + M - 1) % M = i - 1 := by
              rw [show i + M - 1 = (i - 1) + M from by omega, Nat.add_mod_right]
              exact Nat.mod_eq_of_lt (by omega)
            have t1 : ((i + M - 1 : Nat) : Int).tmod ((M : Nat) : Int) = ((i - 1 : Nat) : Int) := by rw [tmodN, ct]
            have ba := bnd (i - 1) (by omega)
            have w3 := i64n ((at0 : Int) + ((i - 1 : Nat) : Int)) (at0 + (i - 1)) (by omega) (by omega)
            have hA := fl_at L M Z hL hW.1 hlL (j := i - 1) (by omega)
            have hAg := hgl.1.at (show i - 1 < (pick2 Z l).length by omega)
            have hgr : cgrow (pick2 Z l) = pick2 Z l ++ [sumC [(pick2 Z l).getD (i - 1) [], (pick2 Z l).getD (dn ((pick2 Z l).getD (i - 1) []) / 256 % (i - 1)) []]] := by
              unfold cgrow
              rw [hpl]
            obtain ⟨A, hAd⟩ : ∃ A, (pick2 Z l).getD (i - 1) [] = A := ⟨_, rfl⟩
            rw [hAd] at hA hAg hgr
            obtain ⟨d1, d3⟩ := drawP_in A
            have dp := refDraw_p A none hAg.1 hAg.2
            obtain ⟨q, hq⟩ : ∃ q, dn A = q := ⟨_, rfl⟩
            rw [hq] at d1 d3 hgr
            rw [d1] at dp
            obtain ⟨ix, hix⟩ : ∃ x, q / 256 % (i - 1) = x := ⟨_, rfl⟩
            have hixl : ix < i - 1 := by rw [← hix]; exact Nat.mod_lt _ (by omega)
            rw [hix] at hgr
            have t2 : (q : Int).tdiv 256 = ((q / 256 : Nat) : Int) := tdivN q 256
            have w4 := i64n ((q / 256 : Nat) : Int) (q / 256) rfl (by omega)
            have w5 := i64n ((i : Int) - 1) (i - 1) (by omega) (by omega)
            have t3 : ((q / 256 : Nat) : Int).tmod ((i - 1 : Nat) : Int) = (ix : Int) := by rw [tmodN, hix]
            have hne1 : ((i - 1 : Nat) : Int) ≠ 0 := by omega
            have bx := bnd ix (by omega)
            have w7 := i64n ((at0 : Int) + (ix : Int)) (at0 + ix) (by omega) (by omega)
            have hB := fl_at L M Z hL hW.1 hlL (j := ix) (by omega)
            have hBg := hgl.1.at (show ix < (pick2 Z l).length by omega)
            obtain ⟨B, hBd⟩ : ∃ B, (pick2 Z l).getD ix [] = B := ⟨_, rfl⟩
            rw [hBd] at hB hBg hgr
            obtain ⟨S, hS⟩ : ∃ S, sumC [A, B] = S := ⟨_, rfl⟩
            have sp2 : ∀ c, PCall Tryd.prog glob 20 [.vsl 2 [blkC A, blkC B] c] (blkC S) := fun c => by
              rw [← hS]
              exact refSumC_p _ c [A, B] (two_rws A B hAg.1 hBg.1) (by simp) (fun r hr => by simp at hr; rcases hr with rfl | rfl <;> omega) (fun r hr => by simp at hr; rcases hr with rfl | rfl; exact hAg.2; exact hBg.2)
            have hst := fl_add L M Z hL hW.1 hlL hpl hiM S
            rw [hS] at hgr
            rw [← hgr, hat] at hst
            rw [hat] at hA hB
            have hWn := hW.grow (by omega) hlL rfl hi2 hiM
            obtain ⟨Z2, hZ2⟩ : ∃ Z2, put2 Z l (cgrow (pick2 Z l)) = Z2 := ⟨_, rfl⟩
            rw [hZ2] at hst hWn
            have hn2 : Z2 = inn L M 0 l (i + 1) Zl := by rw [inn_grow L M 0 l i Zl rfl hi2, ← hZ, hZ2]
            obtain ⟨C, hC⟩ : ∃ C, fl L M Z = C := ⟨_, rfl⟩
            rw [hC] at hlen hA hB hst ⊢
            repeat (first
              | (with_reducible refine lops_step fun K hK => ?_; simp (disch := first | omega | (simp only [go_sem, isRow, isFlat, Option.isSome_some]; done) | assumption | (simp only [ints_length, List.length_replicate, List.length_set, List.length_append, List.length_take, List.length_drop, List.length_cons, List.length_nil] <;> omega) | fail) only [go_sem, Nat.reduceAdd, Nat.reduceSub, reduceIte, Nat.reduceEqDiff, Int.reduceToNat, Int.reduceBEq, Int.reduceBNe, z0, d2, x0, w1, w2, t1, w3, hlen, hA, two, t2, w4, w5, t3, w6, w7, hB, hst, hie, hat]; (try (first | (refine And.intro (fun _ => ?_) (fun h => absurd h (by decide))) | (refine And.intro (fun h => absurd h (by decide)) (fun _ => ?_)))); (repeat (with_reducible refine And.intro (by first | omega | rfl | assumption | decide) ?_)); (first | (refine hK _ _ ?_) | (refine ⟨_, rfl, hK _ _ ?_⟩) | (refine Or.inr (hK _ _ ?_)) | (refine Or.inr ⟨rfl, hK _ _ ?_⟩) | (refine ⟨_, _, Or.inl (dp.go _), (by first | exact ⟨[], (List.append_nil _).symm⟩ | exact ⟨_, rfl⟩), hK _ _ ?_⟩) | (refine ⟨_, _, Or.inl (dp.go _), hK _ _ ?_⟩) | (refine ⟨_, _, Or.inl (dp.go _).weakQ, hK _ _ ?_⟩) | (refine ⟨_, _, Or.inl ((sp2 _).go _), (by first | exact ⟨[], (List.append_nil _).symm⟩ | exact ⟨_, rfl⟩), hK _ _ ?_⟩) | (refine ⟨_, _, Or.inl ((sp2 _).go _), hK _ _ ?_⟩) | (refine ⟨_, _, Or.inl ((sp2 _).go _).weakQ, hK _ _ ?_⟩)); clear hK K)
              | (with_reducible refine lops_nil ?_)
              | (with_reducible refine lavc_reg ?_)
              | (with_reducible refine lavc_seq ?_)
              | (with_reducible refine lavc_block ?_)
              | (with_reducible refine lavc_skip ?_)
              | (with_reducible refine lavc_exit ?_)
              | (with_reducible refine lavc_ret ?_)
              | (with_reducible refine lavcR_round ?_)
              | (refine lavc_cond rfl (fun _ => ?_) (fun hc => absurd hc (by decide)))
              | (refine lavc_cond rfl (fun hc => absurd hc (by decide)) (fun _ => ?_))
              | (simp only [↓reduceIte, Nat.reduceEqDiff, reduceCtorEq]))
            refine ⟨m2 - 1, (i + 1, Z2), by omega, ⟨by show m2 - 1 + (i + 1) = M; omega, hn2, hWn⟩, ?_, ?_⟩
            · simp only [ms10_4, putAll, blank, List.foldl_cons, List.foldl_nil, List.set_cons_succ, List.set_cons_zero, List.cons_append, List.nil_append, ALe, true_or, or_true, and_true, true_and, eq_self, reduceCtorEq, false_or]
            · rfl
          · have zp : ((((p : Nat) : Int) : Int) == 0) = false := by rw [beq_eq_false_iff_ne, ne_eq]; omega
            have hp0 : 0 < p := by omega
            have hpk : ∀ j, j < L → G64 (pick2 Z j) ∧ (pick2 Z j).length = M := fun j hj => by
              have := hW.2.2 j hj
              rw [if_neg h0] at this
              exact this
            have hpl := (hpk l hlL).2
            obtain ⟨ia, hia⟩ : ∃ x, (i + M - 1) % M = x := ⟨_, rfl⟩
            have hial : ia < M := by rw [← hia]; exact Nat.mod_lt _ (by omega)
            have t1 : ((i + M - 1 : Nat) : Int).tmod ((M : Nat) : Int) = (ia : Int) := by rw [tmodN, hia]
            have ba := bnd ia hial
            have w3 := i64n ((at0 : Int) + (ia : Int)) (at0 + ia) (by omega) (by omega)
            have hA := fl_at L M Z hL hW.1 hlL (j := ia) (by omega)
            have hAg := hgl.1.at (show ia < (pick2 Z l).length by omega)
            have han : anew L M Z l i = sumC [(pick2 Z l).getD ia [], (pick2 Z (dn ((pick2 Z l).getD ia []) % L)).getD (dn ((pick2 Z l).getD ia []) / 256 % M) [], (pick2 Z l).getD i []] := by
              unfold anew
              rw [hia]
            obtain ⟨A, hAd⟩ : ∃ A, (pick2 Z l).getD ia [] = A := ⟨_, rfl⟩
            rw [hAd] at hA hAg han
            obtain ⟨d1, d3⟩ := drawP_in A
            have dp := refDraw_p A none hAg.1 hAg.2
            obtain ⟨q, hq⟩ : ∃ q, dn A = q := ⟨_, rfl⟩
            rw [hq] at d1 d3 han
            rw [d1] at dp
            obtain ⟨k, hk⟩ : ∃ x, q % L = x := ⟨_, rfl⟩
            have hkL : k < L := by rw [← hk]; exact Nat.mod_lt _ (by omega)
            obtain ⟨bt, hbt⟩ : ∃ x, k * M = x := ⟨_, rfl⟩
            obtain ⟨ix, hix⟩ : ∃ x, q / 256 % M = x := ⟨_, rfl⟩
            have hixl : ix < M := by rw [← hix]; exact Nat.mod_lt _ (by omega)
            rw [hix, hk] at han
            have bb : bt + ix < N := by
              have := idx_lt hkL hixl
              omega
            have hneL : ((L : Nat) : Int) ≠ 0 := by omega
            have t4 : (q : Int).tmod ((L : Nat) : Int) = (k : Int) := by rw [tmodN, hk]
            have w8 := i64n ((k : Int) * (M : Int)) bt (by rw [mulN, hbt]) (by omega)
            have t2 : (q : Int).tdiv 256 = ((q / 256 : Nat) : Int) := tdivN q 256
            have w4 := i64n ((q / 256 : Nat) : Int) (q / 256) rfl (by omega)
            have t3 : ((q / 256 : Nat) : Int).tmod ((M : Nat) : Int) = (ix : Int) := by rw [tmodN, hix]
            have w7 := i64n ((bt : Int) + (ix : Int)) (bt + ix) (by omega) (by omega)
            have hB := fl_at L M Z hL hW.1 hkL (j := ix) (by rw [(hpk k hkL).2]; exact hixl)
            have hBg := (hpk k hkL).1.at (show ix < (pick2 Z k).length by rw [(hpk k hkL).2]; exact hixl)
            obtain ⟨B, hBd⟩ : ∃ B, (pick2 Z k).getD ix [] = B := ⟨_, rfl⟩
            rw [hBd] at hB hBg han
            have hD := fl_at L M Z hL hW.1 hlL (j := i) (by omega)
            have hDg := hgl.1.at (show i < (pick2 Z l).length by omega)
            obtain ⟨D, hDd⟩ : ∃ D, (pick2 Z l).getD i [] = D := ⟨_, rfl⟩
            rw [hDd] at hD hDg han
            obtain ⟨S, hS⟩ : ∃ S, sumC [A, B, D] = S := ⟨_, rfl⟩
            have sp3 : ∀ c, PCall Tryd.prog glob 20 [.vsl 3 [blkC A, blkC B, blkC D] c] (blkC S) := fun c => by
              rw [← hS]
              exact refSumC_p _ c [A, B, D] (three_rws A B D hAg.1 hBg.1 hDg.1) (by simp) (fun r hr => by simp at hr; rcases hr with rfl | rfl | rfl <;> omega) (fun r hr => by simp at hr; rcases hr with rfl | rfl | rfl; exact hAg.2; exact hBg.2; exact hDg.2)
            rw [hS] at han
            have hst := fl_set L M Z hL hW.1 hlL (i := i) (by omega) S
            have htn : put2 Z l ((pick2 Z l).set i S) = turn L M Z l i := by unfold turn; rw [han]
            have hWn := hW.turn (by omega) hlL h0 hiM
            rw [htn, hat] at hst
            rw [hat] at hA hD
            rw [hbt] at hB
            obtain ⟨Z2, hZ2⟩ : ∃ Z2, turn L M Z l i = Z2 := ⟨_, rfl⟩
            rw [hZ2] at hst hWn
            have hn2 : Z2 = inn L M p l (i + 1) Zl := by rw [inn_turn L M p l i Zl h0, ← hZ, hZ2]
            obtain ⟨C, hC⟩ : ∃ C, fl L M Z = C := ⟨_, rfl⟩
            rw [hC] at hlen hA hB hD hst ⊢
            repeat (first
              | (with_reducible refine lops_step fun K hK => ?_; simp (disch := first | omega | (simp only [go_sem, isRow, isFlat, Option.isSome_some]; done) | assumption | (simp only [ints_length, List.length_replicate, List.length_set, List.length_append, List.length_take, List.length_drop, List.length_cons, List.length_nil] <;> omega) | fail) only [go_sem, Nat.reduceAdd, Nat.reduceSub, reduceIte, Nat.reduceEqDiff, Int.reduceToNat, Int.reduceBEq, Int.reduceBNe, zp, x0, w1, w2, t1, w3, hlen, hA, three, t2, w4, t3, t4, w6, w7, w8, hB, hD, hst, hie]; (try (first | (refine And.intro (fun _ => ?_) (fun h => absurd h (by decide))) | (refine And.intro (fun h => absurd h (by decide)) (fun _ => ?_)))); (repeat (with_reducible refine And.intro (by first | omega | rfl | assumption | decide) ?_)); (first | (refine hK _ _ ?_) | (refine ⟨_, rfl, hK _ _ ?_⟩) | (refine Or.inr (hK _ _ ?_)) | (refine Or.inr ⟨rfl, hK _ _ ?_⟩) | (refine ⟨_, _, Or.inl (dp.go _), (by first | exact ⟨[], (List.append_nil _).symm⟩ | exact ⟨_, rfl⟩), hK _ _ ?_⟩) | (refine ⟨_, _, Or.inl (dp.go _), hK _ _ ?_⟩) | (refine ⟨_, _, Or.inl (dp.go _).weakQ, hK _ _ ?_⟩) | (refine ⟨_, _, Or.inl ((sp3 _).go _), (by first | exact ⟨[], (List.append_nil _).symm⟩ | exact ⟨_, rfl⟩), hK _ _ ?_⟩) | (refine ⟨_, _, Or.inl ((sp3 _).go _), hK _ _ ?_⟩) | (refine ⟨_, _, Or.inl ((sp3 _).go _).weakQ, hK _ _ ?_⟩)); clear hK K)
              | (with_reducible refine lops_nil ?_)
              | (with_reducible refine lavc_reg ?_)
              | (with_reducible refine lavc_seq ?_)
              | (with_reducible refine lavc_block ?_)
              | (with_reducible refine lavc_skip ?_)
              | (with_reducible refine lavc_exit ?_)
              | (with_reducible refine lavc_ret ?_)
              | (with_reducible refine lavcR_round ?_)
              | (refine lavc_cond rfl (fun _ => ?_) (fun hc => absurd hc (by decide)))
              | (refine lavc_cond rfl (fun hc => absurd hc (by decide)) (fun _ => ?_))
              | (simp only [↓reduceIte, Nat.reduceEqDiff, reduceCtorEq]))
            refine ⟨m2 - 1, (i + 1, Z2), by omega, ⟨by show m2 - 1 + (i + 1) = M; omega, hn2, hWn⟩, ?_, ?_⟩
            · simp only [ms10_4, putAll, blank, List.foldl_cons, List.foldl_nil, List.set_cons_succ, List.set_cons_zero, List.cons_append, List.nil_append, ALe, true_or, or_true, and_true, true_and, eq_self, reduceCtorEq, false_or]
            · rfl
      obtain rfl : M = i := by omega
      repeat (first
        | (with_reducible refine lops_step fun K hK => ?_; simp (disch := first | omega | (simp only [go_sem, isRow, isFlat, Option.isSome_some]; done) | assumption | (simp only [ints_length, List.length_replicate, List.length_set, List.length_append, List.length_take, List.length_drop, List.length_cons, List.length_nil] <;> omega) | fail) only [go_sem, Nat.reduceAdd, Nat.reduceSub, reduceIte, Nat.reduceEqDiff, Int.reduceToNat, Int.reduceBEq, Int.reduceBNe, hle]; (try (first | (refine And.intro (fun _ => ?_) (fun h => absurd h (by decide))) | (refine And.intro (fun h => absurd h (by decide)) (fun _ => ?_)))); (repeat (with_reducible refine And.intro (by first | omega | rfl | assumption | decide) ?_)); (first | (refine hK _ _ ?_) | (refine ⟨_, rfl, hK _ _ ?_⟩) | (refine Or.inl (hK _ _ ?_))); clear hK K)
        | (with_reducible refine lops_nil ?_)
        | (with_reducible refine lavc_reg ?_)
        | (with_reducible refine lavc_seq ?_)
        | (with_reducible refine lavc_block ?_)
        | (with_reducible refine lavc_skip ?_)
        | (with_reducible refine lavc_exit ?_)
        | (with_reducible refine lavc_ret ?_)
        | (with_reducible refine lavcR_round ?_)
        | (refine lavc_cond rfl (fun _ => ?_) (fun hc => absurd hc (by decide)))
        | (refine lavc_cond rfl (fun hc => absurd hc (by decide)) (fun _ => ?_))
        | (simp only [↓reduceIte, Nat.reduceEqDiff, reduceCtorEq]))
      refine ⟨m1 - 1, (l + 1, Z), by omega, ⟨by show m1 - 1 + (l + 1) = L; omega, by show Z = lan L M p (l + 1) Zp; rw [hZ, hZl]; rfl, hW.next (by omega)⟩, ?_, ?_⟩
      · simp only [ms10_3, putAll, blank, List.foldl_cons, List.foldl_nil, List.set_cons_succ, List.set_cons_zero, List.cons_append, List.nil_append, ALe, true_or, or_true, and_true, true_and, eq_self, reduceCtorEq, false_or]
      · rfl
    obtain rfl : L = l := by omega
    repeat (first
      | (with_reducible refine lops_step fun K hK => ?_; simp (disch := first | omega | (simp only [go_sem, isRow, isFlat, Option.isSome_some]; done) | assumption | (simp only [ints_length, List.length_replicate, List.length_set, List.length_append, List.length_take, List.length_drop, List.length_cons, List.length_nil] <;> omega) | fail) only [go_sem, Nat.reduceAdd, Nat.reduceSub, reduceIte, Nat.reduceEqDiff, Int.reduceToNat, Int.reduceBEq, Int.reduceBNe, hpe]; (try (first | (refine And.intro (fun _ => ?_) (fun h => absurd h (by decide))) | (refine And.intro (fun h => absurd h (by decide)) (fun _ => ?_)))); (repeat (with_reducible refine And.intro (by first | omega | rfl | assumption | decide) ?_)); (first | (refine hK _ _ ?_) | (refine ⟨_, rfl, hK _ _ ?_⟩) | (refine Or.inl (hK _ _ ?_))); clear hK K)
      | (with_reducible refine lops_nil ?_)
      | (with_reducible refine lavc_reg ?_)
      | (with_reducible refine lavc_seq ?_)
      | (with_reducible refine lavc_block ?_)
      | (with_reducible refine lavc_skip ?_)
      | (with_reducible refine lavc_exit ?_)
      | (with_reducible refine lavc_ret ?_)
      | (with_reducible refine lavcR_round ?_)
      | (refine lavc_cond rfl (fun _ => ?_) (fun hc => absurd hc (by decide)))
      | (refine lavc_cond rfl (fun hc => absurd hc (by decide)) (fun _ => ?_))
      | (simp only [↓reduceIte, Nat.reduceEqDiff, reduceCtorEq]))
    refine ⟨m - 1, (p + 1, Zl), by omega, ⟨by show m - 1 + (p + 1) = Ps; omega, by show Zl = stg L F M (p + 1); rw [hZl, hZp]; rfl, hWl.pass⟩, ?_, ?_⟩
    · simp only [ms10_2, putAll, blank, List.foldl_cons, List.foldl_nil, List.set_cons_succ, List.set_cons_zero, List.cons_append, List.nil_append, ALe, true_or, or_true, and_true, true_and, eq_self, reduceCtorEq, false_or]
    · rfl
  obtain rfl : Ps = p := by omega
  have hlen := fl_len L M Zp hL hWp.1 hWp.2.1
  rw [hN] at hlen
  have hfull : ∀ j, j < L → G64 (pick2 Zp j) ∧ (pick2 Zp j).length = M := fun j hj => by
    obtain ⟨P', rfl⟩ : ∃ P', Ps = P' + 1 := ⟨Ps - 1, by omega⟩
    have := hWp.2.2 j hj
    rw [if_neg (by omega)] at this
    exact this
  have hg0 := (hfull 0 (by omega)).1.at (show M - 1 < (pick2 Zp 0).length by rw [(hfull 0 (by omega)).2]; omega)
  have hA := fl_at L M Zp hL hWp.1 (show 0 < L by omega) (j := M - 1) (by rw [(hfull 0 (by omega)).2]; omega)
  obtain ⟨A, hAd⟩ : ∃ A, (pick2 Zp 0).getD (M - 1) [] = A := ⟨_, rfl⟩
  rw [hAd] at hA hg0
  rw [Nat.zero_mul, Nat.zero_add] at hA
  have j1 : IntKind.i64.wrap (1 + 1) = 2 := by decide
  have j2 : IntKind.i64.wrap (2 + 1) = 3 := by decide
  have v1 : IntKind.i64.wrap (1 * (M : Int)) = (M : Int) := i64n _ _ (by omega) (by omega)
  have v2 := i64n ((M : Int) - 1) (M - 1) (by omega) (by omega)
  have v3 : IntKind.i64.wrap (2 * (M : Int)) = ((2 * M : Nat) : Int) := i64n _ _ (by omega) (by omega)
  have v4 := i64n (((2 * M : Nat) : Int) - 1) (2 * M - 1) (by omega) (by omega)
  have hNM : M - 1 < N := by
    have := idx_lt (show 0 < L by omega) (show M - 1 < M by omega)
    omega
  rcases hL with rfl | rfl
  · have hh : hashP pw salt M Ps 1 n = sumP n [] (packP [A]) := by
      unfold hashP
      rw [if_pos rfl]
      unfold hash1
      rw [hF, ← hAd, hZp, stg_one]
      rfl
    rw [hh]
    obtain ⟨C, hC⟩ : ∃ C, fl 1 M Zp = C := ⟨_, rfl⟩
    rw [hC] at hlen hA ⊢
    have c1 : ((1 : Nat) : Int) = 1 := rfl
    have pp := fun cx => refPack_p [A] [blkC A] cx (Rws.cons hg0.1 Rws.nil) (by simp) (fun r hr => by simp at hr; subst hr; omega)
    have hpl := pack_len [A] 64 (fun r hr => by simp at hr; subst hr; omega)
    have hpb := pack_b8 [A] (fun r hr => by simp at hr; subst hr; exact hg0.2)
    obtain ⟨T, hT⟩ : ∃ T, packP [A] = T := ⟨_, rfl⟩
    rw [hT] at pp hpl hpb ⊢
    have sm := (refSum_p n [] none none 0 rfl (by omega) (by decide) B8.nil T hpb (by simp at hpl; omega)).les (args := [.v (.int .i64 n), .v (.slice none 0 0), .vsl T.length (ints .u8 T) none]) ⟨AvLe.refl _, AvLe.nil, AvLe.refl _, trivial⟩
    have tk1 : List.take 1 [blkC A] = [blkC A] := rfl
    repeat (first
      | (with_reducible refine lops_step fun K hK => ?_; simp (disch := first | omega | (simp only [go_sem, isRow, isFlat, Option.isSome_some]; done) | assumption | (simp only [ints_length, List.length_replicate, List.length_set, List.length_append, List.length_take, List.length_drop, List.length_cons, List.length_nil] <;> omega) | fail) only [go_sem, Nat.reduceAdd, Nat.reduceSub, reduceIte, Nat.reduceEqDiff, Int.reduceToNat, Int.reduceBEq, Int.reduceBNe]; (try (first | (refine And.intro (fun _ => ?_) (fun h => absurd h (by decide))) | (refine And.intro (fun h => absurd h (by decide)) (fun _ => ?_)))); (repeat (with_reducible refine And.intro (by first | omega | rfl | assumption | decide) ?_)); (first | (refine hK _ _ ?_) | (refine ⟨_, rfl, hK _ _ ?_⟩) | (refine Or.inl (hK _ _ ?_))); clear hK K)
      | (with_reducible refine lops_nil ?_)
      | (with_reducible refine lavc_reg ?_)
      | (with_reducible refine lavc_seq ?_)
      | (with_reducible refine lavc_block ?_)
      | (with_reducible refine lavc_skip ?_)
      | (with_reducible refine lavc_exit ?_)
      | (with_reducible refine lavc_ret ?_)
      | (with_reducible refine lavcR_round ?_)
      | (refine lavc_cond rfl (fun _ => ?_) (fun hc => absurd hc (by decide)))
      | (refine lavc_cond rfl (fun hc => absurd hc (by decide)) (fun _ => ?_))
      | (simp only [↓reduceIte, Nat.reduceEqDiff, reduceCtorEq]))
    refine lavc_rounds 2 ?_
    repeat (first
      | (with_reducible refine lops_step fun K hK => ?_; simp (disch := first | omega | (simp only [go_sem, isRow, isFlat, Option.isSome_some]; done) | assumption | (simp only [ints_length, List.length_replicate, List.length_set, List.length_append, List.length_take, List.length_drop, List.length_cons, List.length_nil] <;> omega) | fail) only [go_sem, Nat.reduceAdd, Nat.reduceSub, reduceIte, Nat.reduceEqDiff, Int.reduceToNat, Int.reduceBEq, Int.reduceBNe, c1, j1, v1, v2, hlen, hA, one]; (try (first | (refine And.intro (fun _ => ?_) (fun h => absurd h (by decide))) | (refine And.intro (fun h => absurd h (by decide)) (fun _ => ?_)))); (repeat (with_reducible refine And.intro (by first | omega | rfl | assumption | decide) ?_)); (first | (refine hK _ _ ?_) | (refine ⟨_, rfl, hK _ _ ?_⟩) | (refine Or.inr (hK _ _ ?_)) | (refine Or.inr ⟨rfl, hK _ _ ?_⟩)); clear hK K)
      | (with_reducible refine lops_nil ?_)
      | (with_reducible refine lavc_reg ?_)
      | (with_reducible refine lavc_seq ?_)
      | (with_reducible refine lavc_block ?_)
      | (with_reducible refine lavc_skip ?_)
      | (with_reducible refine lavc_exit ?_)
      | (with_reducible refine lavc_ret ?_)
      | (with_reducible refine lavcR_round ?_)
      | (refine lavc_cond rfl (fun _ => ?_) (fun hc => absurd hc (by decide)))
      | (refine lavc_cond rfl (fun hc => absurd hc (by decide)) (fun _ => ?_))
      | (simp only [↓reduceIte, Nat.reduceEqDiff, reduceCtorEq]))
    refine lops_fz [4] ?_
    simp (disch := first | omega | (simp only [go_sem, isRow, isFlat, Option.isSome_some]; done) | assumption | (simp only [ints_length, List.length_replicate, List.length_set, List.length_append, List.length_take, List.length_drop, List.length_cons, List.length_nil] <;> omega) | fail) only [afz, fzV, fzS, fz_ints, List.map_cons, List.map_nil, List.getElem?_cons_zero, List.getElem?_cons_succ, List.set_cons_zero, List.set_cons_succ, ints_length, true_and, and_true, and_self, if_true, if_false, ↓reduceIte, Nat.reduceEqDiff, Nat.reduceLeDiff, Nat.reduceMul, Nat.reduceAdd, Nat.zero_add, Nat.mul_one, Nat.le_refl, List.length_replicate, List.drop_zero, ints_drop, ints_take, List.take_of_length_le, false_and, and_false, reduceCtorEq, Bool.false_eq_true, forall_const, if_pos, if_neg, tk1]
    (repeat (with_reducible refine And.intro (by first | omega | rfl | assumption | decide) ?_))
    intro K hK
    simp (disch := first | omega | (simp only [go_sem, isRow, isFlat, Option.isSome_some]; done) | assumption | (simp only [ints_length, List.length_replicate, List.length_set, List.length_append, List.length_take, List.length_drop, List.length_cons, List.length_nil] <;> omega) | fail) only [go_sem, Nat.reduceAdd, Nat.reduceSub, reduceIte, Nat.reduceEqDiff, Int.reduceToNat, Int.reduceBEq, Int.reduceBNe, tk1]
    refine ⟨_, _, Or.inl ((pp _).go _).weakQ, hK _ _ ?_⟩
    clear hK K
    repeat (first
      | (with_reducible refine lops_step fun K hK => ?_; simp (disch := first | omega | (simp only [go_sem, isRow, isFlat, Option.isSome_some]; done) | assumption | (simp only [ints_length, List.length_replicate, List.length_set, List.length_append, List.length_take, List.length_drop, List.length_cons, List.length_nil] <;> omega) | fail) only [go_sem, Nat.reduceAdd, Nat.reduceSub, reduceIte, Nat.reduceEqDiff, Int.reduceToNat, Int.reduceBEq, Int.reduceBNe]; (try (first | (refine And.intro (fun _ => ?_) (fun h => absurd h (by decide))) | (refine And.intro (fun h => absurd h (by decide)) (fun _ => ?_)))); (repeat (with_reducible refine And.intro (by first | omega | rfl | assumption | decide) ?_)); (first | (refine hK _ _ ?_) | (refine ⟨_, rfl, hK _ _ ?_⟩) | (refine Or.inr (hK _ _ ?_)) | (refine Or.inr ⟨rfl, hK _ _ ?_⟩) | (refine ⟨_, _, Or.inl (sm.go _), (by first | exact ⟨[], (List.append_nil _).symm⟩ | exact ⟨_, rfl⟩), hK _ _ ?_⟩) | (refine ⟨_, _, Or.inl (sm.go _), hK _ _ ?_⟩) | (refine ⟨_, _, Or.inl (sm.go _).weakQ, hK _ _ ?_⟩)); clear hK K)
      | (with_reducible refine lops_nil ?_)
      | (with_reducible refine lavc_reg ?_)
      | (with_reducible refine lavc_seq ?_)
      | (with_reducible refine lavc_block ?_)
      | (with_reducible refine lavc_skip ?_)
      | (with_reducible refine lavc_exit ?_)
      | (with_reducible refine lavc_ret ?_)
      | (with_reducible refine lavcR_round ?_)
      | (refine lavc_cond rfl (fun _ => ?_) (fun hc => absurd hc (by decide)))
      | (refine lavc_cond rfl (fun hc => absurd hc (by decide)) (fun _ => ?_))
      | (simp only [↓reduceIte, Nat.reduceEqDiff, reduceCtorEq]))
    refine And.intro (by simp) ?_
    simp (disch := first | omega | (simp only [go_sem, isRow, isFlat, Option.isSome_some]; done) | assumption | (simp only [ints_length, List.length_replicate, List.length_set, List.length_append, List.length_take, List.length_drop, List.length_cons, List.length_nil] <;> omega) | fail) only [go_sem, Nat.reduceAdd, Nat.reduceSub, reduceIte, Nat.reduceEqDiff, Int.reduceToNat, Int.reduceBEq, Int.reduceBNe, aret, aretL, aret1, aenv]
    (repeat (with_reducible refine And.intro (by first | omega | rfl | assumption | decide) ?_))
    exact end0 (NR.vsl (NR.ints _ _)) rfl
  · have hg1 := (hfull 1 (by omega)).1.at (show M - 1 < (pick2 Zp 1).length by rw [(hfull 1 (by omega)).2]; omega)
    have hB := fl_at 2 M Zp (.inr rfl) hWp.1 (show 1 < 2 by omega) (j := M - 1) (by rw [(hfull 1 (by omega)).2]; omega)
    obtain ⟨B, hBd⟩ : ∃ B, (pick2 Zp 1).getD (M - 1) [] = B := ⟨_, rfl⟩
    rw [hBd] at hB hg1
    rw [show 1 * M + (M - 1) = 2 * M - 1 from by omega] at hB
    have hh : hashP pw salt M Ps 2 n = sumP n [] (packP [A, B]) := by
      unfold hashP
      rw [if_neg (by decide)]
      unfold hash2
      rw [hF, ← hAd, ← hBd, hZp, stg_two]
      rfl
    rw [hh]
    obtain ⟨C, hC⟩ : ∃ C, fl 2 M Zp = C := ⟨_, rfl⟩
    rw [hC] at hlen hA hB ⊢
    have c1 : ((2 : Nat) : Int) = 2 := rfl
    have pp := fun cx => refPack_p [A, B] [blkC A, blkC B] cx (two_rws A B hg0.1 hg1.1) (by simp) (fun r hr => by simp at hr; rcases hr with rfl | rfl <;> omega)
    have hpl := pack_len [A, B] 64 (fun r hr => by simp at hr; rcases hr with rfl | rfl <;> omega)
    have hpb := pack_b8 [A, B] (fun r hr => by simp at hr; rcases hr with rfl | rfl; exact hg0.2; exact hg1.2)
    obtain ⟨T, hT⟩ : ∃ T, packP [A, B] = T := ⟨_, rfl⟩
    rw [hT] at pp hpl hpb ⊢
    have sm := (refSum_p n [] none none 0 rfl (by omega) (by decide) B8.nil T hpb (by simp at hpl; omega)).les (args := [.v (.int .i64 n), .v (.slice none 0 0), .vsl T.length (ints .u8 T) none]) ⟨AvLe.refl _, AvLe.nil, AvLe.refl _, trivial⟩
    have tk2 : List.take 2 [blkC A, blkC B] = [blkC A, blkC B] := rfl
    repeat (first
      | (with_reducible refine lops_step fun K hK => ?_; simp (disch := first | omega | (simp only [go_sem, isRow, isFlat, Option.isSome_some]; done) | assumption | (simp only [ints_length, List.length_replicate, List.length_set, List.length_append, List.length_take, List.length_drop, List.length_cons, List.length_nil] <;> omega) | fail) only [go_sem, Nat.reduceAdd, Nat.reduceSub, reduceIte, Nat.reduceEqDiff, Int.reduceToNat, Int.reduceBEq, Int.reduceBNe]; (try (first | (refine And.intro (fun _ => ?_) (fun h => absurd h (by decide))) | (refine And.intro (fun h => absurd h (by decide)) (fun _ => ?_)))); (repeat (with_reducible refine And.intro (by first | omega | rfl | assumption | decide) ?_)); (first | (refine hK _ _ ?_) | (refine ⟨_, rfl, hK _ _ ?_⟩) | (refine Or.inl (hK _ _ ?_))); clear hK K)
      | (with_reducible refine lops_nil ?_)
      | (with_reducible refine lavc_reg ?_)
      | (with_reducible refine lavc_seq ?_)
      | (with_reducible refine lavc_block ?_)
      | (with_reducible refine lavc_skip ?_)
      | (with_reducible refine lavc_exit ?_)
      | (with_reducible refine lavc_ret ?_)
      | (with_reducible refine lavcR_round ?_)
      | (refine lavc_cond rfl (fun _ => ?_) (fun hc => absurd hc (by decide)))
      | (refine lavc_cond rfl (fun hc => absurd hc (by decide)) (fun _ => ?_))
      | (simp only [↓reduceIte, Nat.reduceEqDiff, reduceCtorEq]))
    refine lavc_rounds 3 ?_
    repeat (first
      | (with_reducible refine lops_step fun K hK => ?_; simp (disch := first | omega | (simp only [go_sem, isRow, isFlat, Option.isSome_some]; done) | assumption | (simp only [ints_length, List.length_replicate, List.length_set, List.length_append, List.length_take, List.length_drop, List.length_cons, List.length_nil] <;> omega) | fail) only [go_sem, Nat.reduceAdd, Nat.reduceSub, reduceIte, Nat.reduceEqDiff, Int.reduceToNat, Int.reduceBEq, Int.reduceBNe, c1, j1, j2, v1, v2, v3, v4, hlen, hA, hB, one]; (try (first | (refine And.intro (fun _ => ?_) (fun h => absurd h (by decide))) | (refine And.intro (fun h => absurd h (by decide)) (fun _ => ?_)))); (repeat (with_reducible refine And.intro (by first | omega | rfl | assumption | decide) ?_)); (first | (refine hK _ _ ?_) | (refine ⟨_, rfl, hK _ _ ?_⟩) | (refine Or.inr (hK _ _ ?_)) | (refine Or.inr ⟨rfl, hK _ _ ?_⟩)); clear hK K)
      | (with_reducible refine lops_nil ?_)
      | (with_reducible refine lavc_reg ?_)
      | (with_reducible refine lavc_seq ?_)
      | (with_reducible refine lavc_block ?_)
      | (with_reducible refine lavc_skip ?_)
      | (with_reducible refine lavc_exit ?_)
      | (with_reducible refine lavc_ret ?_)
      | (with_reducible refine lavcR_round ?_)
      | (refine lavc_cond rfl (fun _ => ?_) (fun hc => absurd hc (by decide)))
      | (refine lavc_cond rfl (fun hc => absurd hc (by decide)) (fun _ => ?_))
      | (simp only [↓reduceIte, Nat.reduceEqDiff, reduceCtorEq]))
    refine lops_fz [4] ?_
    simp (disch := first | omega | (simp only [go_sem, isRow, isFlat, Option.isSome_some]; done) | assumption | (simp only [ints_length, List.length_replicate, List.length_set, List.length_append, List.length_take, List.length_drop, List.length_cons, List.length_nil] <;> omega) | fail) only [afz, fzV, fzS, fz_ints, List.map_cons, List.map_nil, List.getElem?_cons_zero, List.getElem?_cons_succ, List.set_cons_zero, List.set_cons_succ, ints_length, true_and, and_true, and_self, if_true, if_false, ↓reduceIte, Nat.reduceEqDiff, Nat.reduceLeDiff, Nat.reduceMul, Nat.reduceAdd, Nat.zero_add, Nat.mul_one, Nat.le_refl, List.length_replicate, List.drop_zero, ints_drop, ints_take, List.take_of_length_le, false_and, and_false, reduceCtorEq, Bool.false_eq_true, forall_const, if_pos, if_neg, tk2]
    (repeat (with_reducible refine And.intro (by first | omega | rfl | assumption | decide) ?_))
    intro K hK
    simp (disch := first | omega | (simp only [go_sem, isRow, isFlat, Option.isSome_some]; done) | assumption | (simp only [ints_length, List.length_replicate, List.length_set, List.length_append, List.length_take, List.length_drop, List.length_cons, List.length_nil] <;> omega) | fail) only [go_sem, Nat.reduceAdd, Nat.reduceSub, reduceIte, Nat.reduceEqDiff, Int.reduceToNat, Int.reduceBEq, Int.reduceBNe, tk2]
    refine ⟨_, _, Or.inl ((pp _).go _).weakQ, hK _ _ ?_⟩
    clear hK K
    repeat (first
      | (with_reducible refine lops_step fun K hK => ?_; simp (disch := first | omega | (simp only [go_sem, isRow, isFlat, Option.isSome_some]; done) | assumption | (simp only [ints_length, List.length_replicate, List.length_set, List.length_append, List.length_take, List.length_drop, List.length_cons, List.length_nil] <;> omega) | fail) only [go_sem, Nat.reduceAdd, Nat.reduceSub, reduceIte, Nat.reduceEqDiff, Int.reduceToNat, Int.reduceBEq, Int.reduceBNe]; (try (first | (refine And.intro (fun _ => ?_) (fun h => absurd h (by decide))) | (refine And.intro (fun h => absurd h (by decide)) (fun _ => ?_)))); (repeat (with_reducible refine And.intro (by first | omega | rfl | assumption | decide) ?_)); (first | (refine hK _ _ ?_) | (refine ⟨_, rfl, hK _ _ ?_⟩) | (refine Or.inr (hK _ _ ?_)) | (refine Or.inr ⟨rfl, hK _ _ ?_⟩) | (refine ⟨_, _, Or.inl (sm.go _), (by first | exact ⟨[], (List.append_nil _).symm⟩ | exact ⟨_, rfl⟩), hK _ _ ?_⟩) | (refine ⟨_, _, Or.inl (sm.go _), hK _ _ ?_⟩) | (refine ⟨_, _, Or.inl (sm.go _).weakQ, hK _ _ ?_⟩)); clear hK K)
      | (with_reducible refine lops_nil ?_)
      | (with_reducible refine lavc_reg ?_)
      | (with_reducible refine lavc_seq ?_)
      | (with_reducible refine lavc_block ?_)
      | (with_reducible refine lavc_skip ?_)
      | (with_reducible refine lavc_exit ?_)
      | (with_reducible refine lavc_ret ?_)
      | (with_reducible refine lavcR_round ?_)
      | (refine lavc_cond rfl (fun _ => ?_) (fun hc => absurd hc (by decide)))
      | (refine lavc_cond rfl (fun hc => absurd hc (by decide)) (fun _ => ?_))
      | (simp only [↓reduceIte, Nat.reduceEqDiff, reduceCtorEq]))
    refine And.intro (by simp) ?_
    simp (disch := first | omega | (simp only [go_sem, isRow, isFlat, Option.isSome_some]; done) | assumption | (simp only [ints_length, List.length_replicate, List.length_set, List.length_append, List.length_take, List.length_drop, List.length_cons, List.length_nil] <;> omega) | fail) only [go_sem, Nat.reduceAdd, Nat.reduceSub, reduceIte, Nat.reduceEqDiff, Int.reduceToNat, Int.reduceBEq, Int.reduceBNe, aret, aretL, aret1, aenv]
    (repeat (with_reducible refine And.intro (by first | omega | rfl | assumption | decide) ?_))
    exact end0 (NR.vsl (NR.ints _ _)) rfl
open Go.Proofs
set_option linter.unusedVariables false
set_option linter.unusedSimpArgs false
set_option maxRecDepth 100000
set_option maxHeartbeats 2000000
theorem NR.nilS : NR (.v (.slice none 0 0)) := NR.v _
theorem Hash_bad : PCall Tryd.prog glob 9 [.v (.slice none 0 0), .v (.slice none 0 0), cv 3 1 1 0, iv 32] (.tup [.v (.slice none 0 0), iv 1]) := by
  refine PCall.of ctx.nr (List.forall_mem_cons.2 ⟨NR.v _, List.forall_mem_cons.2 ⟨NR.v _, List.forall_mem_cons.2 ⟨NR.cv _ _ _ _, List.forall_mem_cons.2 ⟨NR.v _, fun _ h => absurd h List.not_mem_nil⟩⟩⟩⟩) (NR.tup (by intro c hc; simp at hc; rcases hc with rfl | rfl <;> exact NR.v _)) ?_
  refine lcall9 (by simp) 0 (Nat.le_refl _) ?_
  unfold lc9
  simp only [List.length_cons, List.length_nil, Nat.reduceAdd, Nat.reduceSub, List.replicate_succ, List.replicate_zero, List.cons_append, List.nil_append]
  have gp := Good_p 3 1 1 0
  have e : goodC 3 1 1 = false := by decide
  rw [e] at gp
  repeat (first
    | (with_reducible refine lops_step fun K hK => ?_; simp (disch := first | omega | (simp only [go_sem, isRow, isFlat, Option.isSome_some]; done) | assumption | (simp only [ints_length, List.length_replicate, List.length_set, List.length_append, List.length_take, List.length_drop, List.length_cons, List.length_nil] <;> omega) | fail) only [go_sem, Nat.reduceAdd, Nat.reduceSub, reduceIte, Nat.reduceEqDiff, Int.reduceToNat, Int.reduceBEq, Int.reduceBNe]; (try (first | (refine And.intro (fun _ => ?_) (fun h => absurd h (by decide))) | (refine And.intro (fun h => absurd h (by decide)) (fun _ => ?_)))); (repeat (with_reducible refine And.intro (by first | omega | rfl | assumption | decide) ?_)); (first | (refine hK _ _ ?_) | (refine ⟨_, rfl, hK _ _ ?_⟩) | (refine Or.inl (hK _ _ ?_)) | (refine ⟨_, _, Or.inl (gp.go _), (by first | exact ⟨[], (List.append_nil _).symm⟩ | exact ⟨_, rfl⟩), hK _ _ ?_⟩) | (refine ⟨_, _, Or.inl (gp.go _), hK _ _ ?_⟩) | (refine ⟨_, _, Or.inl (gp.go _).weakQ, hK _ _ ?_⟩)); clear hK K)
    | (with_reducible refine lops_nil ?_)
    | (with_reducible refine lavc_reg ?_)
    | (with_reducible refine lavc_seq ?_)
    | (with_reducible refine lavc_block ?_)
    | (with_reducible refine lavc_skip ?_)
    | (with_reducible refine lavc_exit ?_)
    | (with_reducible refine lavc_ret ?_)
    | (with_reducible refine lavcR_round ?_)
    | (refine lavc_cond rfl (fun _ => ?_) (fun hc => absurd hc (by decide)))
    | (refine lavc_cond rfl (fun hc => absurd hc (by decide)) (fun _ => ?_))
    | (simp only [↓reduceIte, Nat.reduceEqDiff, reduceCtorEq]))
  refine And.intro (by simp) ?_
  simp (disch := first | omega | (simp only [go_sem, isRow, isFlat, Option.isSome_some]; done) | assumption | (simp only [ints_length, List.length_replicate, List.length_set, List.length_append, List.length_take, List.length_drop, List.length_cons, List.length_nil] <;> omega) | fail) only [go_sem, Nat.reduceAdd, Nat.reduceSub, reduceIte, Nat.reduceEqDiff, Int.reduceToNat, Int.reduceBEq, Int.reduceBNe, aret, aretL, aret1, aenv]
  (repeat (with_reducible refine And.intro (by first | omega | rfl | assumption | decide) ?_))
  exact end0 (NR.tup (by intro c hc; simp at hc; rcases hc with rfl | rfl <;> exact NR.v _)) rfl
theorem awake_p : PCall Tryd.prog glob 6 [] (.v (.bool true)) := by
  refine PCall.of ctx.nr (by (repeat (refine List.forall_mem_cons.2 (And.intro (by first | exact NR.v _ | exact NR.agg (NR.ints _ _) | exact NR.vsl (NR.ints _ _) | exact NR.vptr (NR.ints _ _) | assumption) ?_))); exact fun _ h => absurd h List.not_mem_nil) (NR.v _) ?_
  refine lcall6 (by simp) 0 (Nat.le_refl _) ?_
  unfold lc6
  simp only [List.length_cons, List.length_nil, Nat.reduceAdd, Nat.reduceSub, List.replicate_succ, List.replicate_zero, List.cons_append, List.nil_append]
  have el : (((List.replicate 4 (0 : Int)).set 0 3).set 1 1).set 2 1 = [3, 1, 1, 0] := rfl
  have hb : PCall Tryd.prog glob 9 [.v (.slice none 0 0), .v (.slice none 0 0), .agg (ints .i64 [3, 1, 1, 0]), iv 32] (.tup [.v (.slice none 0 0), iv 1]) := Hash_bad
  repeat (first
    | (with_reducible refine lops_step fun K hK => ?_; simp (disch := first | omega | (simp only [go_sem, isRow, isFlat, Option.isSome_some]; done) | assumption | (simp only [ints_length, List.length_replicate, List.length_set, List.length_append, List.length_take, List.length_drop, List.length_cons, List.length_nil] <;> omega) | fail) only [go_sem, Nat.reduceAdd, Nat.reduceSub, reduceIte, Nat.reduceEqDiff, Int.reduceToNat, Int.reduceBEq, Int.reduceBNe, el]; (try (first | (refine And.intro (fun _ => ?_) (fun h => absurd h (by decide))) | (refine And.intro (fun h => absurd h (by decide)) (fun _ => ?_)))); (repeat (with_reducible refine And.intro (by first | omega | rfl | assumption | decide) ?_)); (first | (refine hK _ _ ?_) | (refine ⟨_, rfl, hK _ _ ?_⟩) | (refine Or.inl (hK _ _ ?_)) | (refine ⟨_, _, Or.inl (hb.go _), (by first | exact ⟨[], (List.append_nil _).symm⟩ | exact ⟨_, rfl⟩), hK _ _ ?_⟩) | (refine ⟨_, _, Or.inl (hb.go _), hK _ _ ?_⟩) | (refine ⟨_, _, Or.inl (hb.go _).weakQ, hK _ _ ?_⟩)); clear hK K)
    | (with_reducible refine lops_nil ?_)
    | (with_reducible refine lavc_reg ?_)
    | (with_reducible refine lavc_seq ?_)
    | (with_reducible refine lavc_block ?_)
    | (with_reducible refine lavc_skip ?_)
    | (with_reducible refine lavc_exit ?_)
    | (with_reducible refine lavc_ret ?_)
    | (with_reducible refine lavcR_round ?_)
    | (refine lavc_cond rfl (fun _ => ?_) (fun hc => absurd hc (by decide)))
    | (refine lavc_cond rfl (fun hc => absurd hc (by decide)) (fun _ => ?_))
    | (simp only [↓reduceIte, Nat.reduceEqDiff, reduceCtorEq]))
  refine And.intro (by simp) ?_
  simp (disch := first | omega | (simp only [go_sem, isRow, isFlat, Option.isSome_some]; done) | assumption | (simp only [ints_length, List.length_replicate, List.length_set, List.length_append, List.length_take, List.length_drop, List.length_cons, List.length_nil] <;> omega) | fail) only [go_sem, Nat.reduceAdd, Nat.reduceSub, reduceIte, Nat.reduceEqDiff, Int.reduceToNat, Int.reduceBEq, Int.reduceBNe, aret, aretL, aret1, aenv]
  (repeat (with_reducible refine And.intro (by first | omega | rfl | assumption | decide) ?_))
  exact end0 (NR.v _) rfl
theorem goods_p (a b c d : Int) : PCall Tryd.prog glob 5 [cv a b c d] (.v (.bool true)) := by
  refine PCall.of ctx.nr (List.forall_mem_cons.2 ⟨NR.cv _ _ _ _, fun _ h => absurd h List.not_mem_nil⟩) (NR.v _) ?_
  refine lcall5 (by simp) 0 (Nat.le_refl _) ?_
  unfold lc5
  simp only [List.length_cons, List.length_nil, Nat.reduceAdd, Nat.reduceSub, List.replicate_succ, List.replicate_zero, List.cons_append, List.nil_append]
  have aw := awake_p
  have g1 := Good_p a b c d
  have g2 := refGood_p a b c d
  have g3 := Good_p a b c 7
  have q : (goodC a b c == goodC a b c) = true := by simp
  repeat (first
    | (with_reducible refine lops_step fun K hK => ?_; simp (disch := first | omega | (simp only [go_sem, isRow, isFlat, Option.isSome_some]; done) | assumption | (simp only [ints_length, List.length_replicate, List.length_set, List.length_append, List.length_take, List.length_drop, List.length_cons, List.length_nil] <;> omega) | fail) only [go_sem, Nat.reduceAdd, Nat.reduceSub, reduceIte, Nat.reduceEqDiff, Int.reduceToNat, Int.reduceBEq, Int.reduceBNe, q]; (try (first | (refine And.intro (fun _ => ?_) (fun h => absurd h (by decide))) | (refine And.intro (fun h => absurd h (by decide)) (fun _ => ?_)))); (repeat (with_reducible refine And.intro (by first | omega | rfl | assumption | decide) ?_)); (first | (refine hK _ _ ?_) | (refine ⟨_, rfl, hK _ _ ?_⟩) | (refine Or.inl (hK _ _ ?_)) | (refine ⟨_, _, Or.inl (aw.go _), (by first | exact ⟨[], (List.append_nil _).symm⟩ | exact ⟨_, rfl⟩), hK _ _ ?_⟩) | (refine ⟨_, _, Or.inl (aw.go _), hK _ _ ?_⟩) | (refine ⟨_, _, Or.inl (aw.go _).weakQ, hK _ _ ?_⟩) | (refine ⟨_, _, Or.inl (g1.go _), (by first | exact ⟨[], (List.append_nil _).symm⟩ | exact ⟨_, rfl⟩), hK _ _ ?_⟩) | (refine ⟨_, _, Or.inl (g1.go _), hK _ _ ?_⟩) | (refine ⟨_, _, Or.inl (g1.go _).weakQ, hK _ _ ?_⟩) | (refine ⟨_, _, Or.inl (g2.go _), (by first | exact ⟨[], (List.append_nil _).symm⟩ | exact ⟨_, rfl⟩), hK _ _ ?_⟩) | (refine ⟨_, _, Or.inl (g2.go _), hK _ _ ?_⟩) | (refine ⟨_, _, Or.inl (g2.go _).weakQ, hK _ _ ?_⟩) | (refine ⟨_, _, Or.inl (g3.go _), (by first | exact ⟨[], (List.append_nil _).symm⟩ | exact ⟨_, rfl⟩), hK _ _ ?_⟩) | (refine ⟨_, _, Or.inl (g3.go _), hK _ _ ?_⟩) | (refine ⟨_, _, Or.inl (g3.go _).weakQ, hK _ _ ?_⟩)); clear hK K)
    | (with_reducible refine lops_nil ?_)
    | (with_reducible refine lavc_reg ?_)
    | (with_reducible refine lavc_seq ?_)
    | (with_reducible refine lavc_block ?_)
    | (with_reducible refine lavc_skip ?_)
    | (with_reducible refine lavc_exit ?_)
    | (with_reducible refine lavc_ret ?_)
    | (with_reducible refine lavcR_round ?_)
    | (refine lavc_cond rfl (fun _ => ?_) (fun hc => absurd hc (by decide)))
    | (refine lavc_cond rfl (fun hc => absurd hc (by decide)) (fun _ => ?_))
    | (simp only [↓reduceIte, Nat.reduceEqDiff, reduceCtorEq]))
  refine And.intro (by simp) ?_
  simp (disch := first | omega | (simp only [go_sem, isRow, isFlat, Option.isSome_some]; done) | assumption | (simp only [ints_length, List.length_replicate, List.length_set, List.length_append, List.length_take, List.length_drop, List.length_cons, List.length_nil] <;> omega) | fail) only [go_sem, Nat.reduceAdd, Nat.reduceSub, reduceIte, Nat.reduceEqDiff, Int.reduceToNat, Int.reduceBEq, Int.reduceBNe, aret, aretL, aret1, aenv]
  (repeat (with_reducible refine And.intro (by first | omega | rfl | assumption | decide) ?_))
  exact end0 (NR.v _) rfl
open Go.Proofs
open Go.Abs.B
set_option linter.unusedVariables false
set_option linter.unusedSimpArgs false
set_option maxRecDepth 100000
set_option maxHeartbeats 8000000
theorem hashP_len (pw salt : List Int) (M Ps L n : Nat) : (hashP pw salt M Ps L n).length = n := by
  unfold hashP hash1 hash2
  split <;> exact sumP_length _ _ _
theorem hash_p (pw salt : List Int) (c1 c2 : Option Nat) (M Ps L n : Nat) (R : Int) (hM : 4 ≤ M ∧ M ≤ 64) (hP : 1 ≤ Ps ∧ Ps ≤ 4) (hL : L = 1 ∨ L = 2) (hn : 1 ≤ n ∧ n ≤ 64) (hp : pw.length ≤ 200) (hs : salt.length ≤ 200) (bp : B8 pw) (bs : B8 salt) :
    PCall Tryd.prog glob 9 [.vsl pw.length (ints .u8 pw) c1, .vsl salt.length (ints .u8 salt) c2, cv M Ps L R, iv n] (.tup [.vsl n (ints .u8 (hashP pw salt M Ps L n)) none, iv 0]) := by
  rcases hL with rfl | rfl
  · exact hash1_p pw salt c1 c2 M Ps n R hM hP hn hp hs bp bs
  · exact hash2_p pw salt c1 c2 M Ps n R hM hP hn hp hs bp bs
theorem Hash_bad1 (x0 x1 : List Int) (c1 c2 : Option Nat) (a b c d n : Int) (h : goodC a b c = false) :
    PCall Tryd.prog glob 9 [.vsl x0.length (ints .u8 x0) c1, .vsl x1.length (ints .u8 x1) c2, cv a b c d, iv n] (.tup [.v (.slice none 0 0), iv 1]) := by
  refine PCall.of ctx.nr (List.forall_mem_cons.2 ⟨NR.vsl (NR.ints _ _), List.forall_mem_cons.2 ⟨NR.vsl (NR.ints _ _), List.forall_mem_cons.2 ⟨NR.cv _ _ _ _, List.forall_mem_cons.2 ⟨NR.v _, fun _ h => absurd h List.not_mem_nil⟩⟩⟩⟩) (NR.tup (by intro c hc; simp at hc; rcases hc with rfl | rfl <;> exact NR.v _)) ?_
  refine lcall9 (by simp) 0 (Nat.le_refl _) ?_
  unfold lc9
  simp only [List.length_cons, List.length_nil, Nat.reduceAdd, Nat.reduceSub, List.replicate_succ, List.replicate_zero, List.cons_append, List.nil_append]
  have gp := Good_p a b c d
  rw [h] at gp
  repeat (first
    | (with_reducible refine lops_step fun K hK => ?_; simp (disch := first | omega | (simp only [go_sem, isRow, isFlat, Option.isSome_some]; done) | assumption | (simp only [ints_length, List.length_replicate, List.length_set, List.length_append, List.length_take, List.length_drop, List.length_cons, List.length_nil] <;> omega) | fail) only [go_sem, Nat.reduceAdd, Nat.reduceSub, reduceIte, Nat.reduceEqDiff, Int.reduceToNat, Int.reduceBEq, Int.reduceBNe]; (try (first | (refine And.intro (fun _ => ?_) (fun h => absurd h (by decide))) | (refine And.intro (fun h => absurd h (by decide)) (fun _ => ?_)))); (repeat (with_reducible refine And.intro (by first | omega | rfl | assumption | decide) ?_)); (first | (refine hK _ _ ?_) | (refine ⟨_, rfl, hK _ _ ?_⟩) | (refine Or.inl (hK _ _ ?_)) | (refine ⟨_, _, Or.inl (gp.go _), (by first | exact ⟨[], (List.append_nil _).symm⟩ | exact ⟨_, rfl⟩), hK _ _ ?_⟩) | (refine ⟨_, _, Or.inl (gp.go _), hK _ _ ?_⟩) | (refine ⟨_, _, Or.inl (gp.go _).weakQ, hK _ _ ?_⟩)); clear hK K)
    | (with_reducible refine lops_nil ?_)
    | (with_reducible refine lavc_reg ?_)
    | (with_reducible refine lavc_seq ?_)
    | (with_reducible refine lavc_block ?_)
    | (with_reducible refine lavc_skip ?_)
    | (with_reducible refine lavc_exit ?_)
    | (with_reducible refine lavc_ret ?_)
    | (with_reducible refine lavcR_round ?_)
    | (refine lavc_cond rfl (fun _ => ?_) (fun hc => absurd hc (by decide)))
    | (refine lavc_cond rfl (fun hc => absurd hc (by decide)) (fun _ => ?_))
    | (simp only [↓reduceIte, Nat.reduceEqDiff, reduceCtorEq]))
  refine And.intro (by simp) ?_
  simp (disch := first | omega | (simp only [go_sem, isRow, isFlat, Option.isSome_some]; done) | assumption | (simp only [ints_length, List.length_replicate, List.length_set, List.length_append, List.length_take, List.length_drop, List.length_cons, List.length_nil] <;> omega) | fail) only [go_sem, Nat.reduceAdd, Nat.reduceSub, reduceIte, Nat.reduceEqDiff, Int.reduceToNat, Int.reduceBEq, Int.reduceBNe, aret, aretL, aret1, aenv]
  (repeat (with_reducible refine And.intro (by first | omega | rfl | assumption | decide) ?_))
  exact end0 (NR.tup (by intro c hc; simp at hc; rcases hc with rfl | rfl <;> exact NR.v _)) rfl
theorem Hash_bad2 (x0 x1 : List Int) (c1 c2 : Option Nat) (a b c d n : Int) (h : goodC a b c = true) (hn : n < 1 ∨ 64 < n) :
    PCall Tryd.prog glob 9 [.vsl x0.length (ints .u8 x0) c1, .vsl x1.length (ints .u8 x1) c2, cv a b c d, iv n] (.tup [.v (.slice none 0 0), iv 1]) := by
  refine PCall.of ctx.nr (List.forall_mem_cons.2 ⟨NR.vsl (NR.ints _ _), List.forall_mem_cons.2 ⟨NR.vsl (NR.ints _ _), List.forall_mem_cons.2 ⟨NR.cv _ _ _ _, List.forall_mem_cons.2 ⟨NR.v _, fun _ h => absurd h List.not_mem_nil⟩⟩⟩⟩) (NR.tup (by intro c hc; simp at hc; rcases hc with rfl | rfl <;> exact NR.v _)) ?_
  refine lcall9 (by simp) 0 (Nat.le_refl _) ?_
  unfold lc9
  simp only [List.length_cons, List.length_nil, Nat.reduceAdd, Nat.reduceSub, List.replicate_succ, List.replicate_zero, List.cons_append, List.nil_append]
  have gp := Good_p a b c d
  rw [h] at gp
  have wp := within_p n 1 64
  rw [decide_eq_false (by omega)] at wp
  repeat (first
    | (with_reducible refine lops_step fun K hK => ?_; simp (disch := first | omega | (simp only [go_sem, isRow, isFlat, Option.isSome_some]; done) | assumption | (simp only [ints_length, List.length_replicate, List.length_set, List.length_append, List.length_take, List.length_drop, List.length_cons, List.length_nil] <;> omega) | fail) only [go_sem, Nat.reduceAdd, Nat.reduceSub, reduceIte, Nat.reduceEqDiff, Int.reduceToNat, Int.reduceBEq, Int.reduceBNe]; (try (first | (refine And.intro (fun _ => ?_) (fun h => absurd h (by decide))) | (refine And.intro (fun h => absurd h (by decide)) (fun _ => ?_)))); (repeat (with_reducible refine And.intro (by first | omega | rfl | assumption | decide) ?_)); (first | (refine hK _ _ ?_) | (refine ⟨_, rfl, hK _ _ ?_⟩) | (refine Or.inl (hK _ _ ?_)) | (refine ⟨_, _, Or.inl (gp.go _), (by first | exact ⟨[], (List.append_nil _).symm⟩ | exact ⟨_, rfl⟩), hK _ _ ?_⟩) | (refine ⟨_, _, Or.inl (gp.go _), hK _ _ ?_⟩) | (refine ⟨_, _, Or.inl (gp.go _).weakQ, hK _ _ ?_⟩) | (refine ⟨_, _, Or.inl (wp.go _), (by first | exact ⟨[], (List.append_nil _).symm⟩ | exact ⟨_, rfl⟩), hK _ _ ?_⟩) | (refine ⟨_, _, Or.inl (wp.go _), hK _ _ ?_⟩) | (refine ⟨_, _, Or.inl (wp.go _).weakQ, hK _ _ ?_⟩)); clear hK K)
    | (with_reducible refine lops_nil ?_)
    | (with_reducible refine lavc_reg ?_)
    | (with_reducible refine lavc_seq ?_)
    | (with_reducible refine lavc_block ?_)
    | (with_reducible refine lavc_skip ?_)
    | (with_reducible refine lavc_exit ?_)
    | (with_reducible refine lavc_ret ?_)
    | (with_reducible refine lavcR_round ?_)
    | (refine lavc_cond rfl (fun _ => ?_) (fun hc => absurd hc (by decide)))
    | (refine lavc_cond rfl (fun hc => absurd hc (by decide)) (fun _ => ?_))
    | (simp only [↓reduceIte, Nat.reduceEqDiff, reduceCtorEq]))
  refine And.intro (by simp) ?_
  simp (disch := first | omega | (simp only [go_sem, isRow, isFlat, Option.isSome_some]; done) | assumption | (simp only [ints_length, List.length_replicate, List.length_set, List.length_append, List.length_take, List.length_drop, List.length_cons, List.length_nil] <;> omega) | fail) only [go_sem, Nat.reduceAdd, Nat.reduceSub, reduceIte, Nat.reduceEqDiff, Int.reduceToNat, Int.reduceBEq, Int.reduceBNe, aret, aretL, aret1, aenv]
  (repeat (with_reducible refine And.intro (by first | omega | rfl | assumption | decide) ?_))
  exact end0 (NR.tup (by intro c hc; simp at hc; rcases hc with rfl | rfl <;> exact NR.v _)) rfl
theorem hashes_law (x0 x1 : List Int) (a b c d n : Int) (b0 : B8 x0) (b1 : B8 x1) :
    PCall Tryd.prog glob 3 [.agg [.vsl x0.length (ints .u8 x0) none, .vsl x1.length (ints .u8 x1) none], cv a b c d, iv n] (.v (.bool true)) := by
  refine PCall.of ctx.nr (List.forall_mem_cons.2 ⟨NR.agg (by (repeat (refine List.forall_mem_cons.2 (And.intro (by first | exact NR.v _ | exact NR.agg (NR.ints _ _) | exact NR.vsl (NR.ints _ _) | exact NR.vptr (NR.ints _ _) | assumption) ?_))); exact fun _ h => absurd h List.not_mem_nil), List.forall_mem_cons.2 ⟨NR.cv _ _ _ _, List.forall_mem_cons.2 ⟨NR.v _, fun _ h => absurd h List.not_mem_nil⟩⟩⟩) (NR.v _) ?_
  refine lcall3 (by simp) 0 (Nat.le_refl _) ?_
  unfold lc3
  simp only [List.length_cons, List.length_nil, Nat.reduceAdd, Nat.reduceSub, List.replicate_succ, List.replicate_zero, List.cons_append, List.nil_append]
  have ha := awake_p
  by_cases h1 : 100 < x0.length
  · have d1 : decide ((x0.length : Int) > 100) = true := by simp; omega
    repeat (first
      | (with_reducible refine lops_step fun K hK => ?_; simp (disch := first | omega | (simp only [go_sem, isRow, isFlat, Option.isSome_some]; done) | assumption | (simp only [ints_length, List.length_replicate, List.length_set, List.length_append, List.length_take, List.length_drop, List.length_cons, List.length_nil] <;> omega) | fail) only [go_sem, Nat.reduceAdd, Nat.reduceSub, reduceIte, Nat.reduceEqDiff, Int.reduceToNat, Int.reduceBEq, Int.reduceBNe, d1]; (repeat (with_reducible refine And.intro (by first | omega | rfl | assumption | decide) ?_)); (first | (refine hK _ _ ?_) | (refine ⟨_, rfl, hK _ _ ?_⟩) | (refine Or.inl (hK _ _ ?_)) | (refine ⟨_, _, Or.inl ((ha.go _).weakQ), (by first | exact ⟨[], (List.append_nil _).symm⟩ | exact ⟨_, rfl⟩), hK _ _ ?_⟩) | (refine ⟨_, _, Or.inl ((ha.go _).weakQ), hK _ _ ?_⟩) | (refine ⟨_, _, Or.inl ((ha.go _).weakQ).weakQ, hK _ _ ?_⟩)); clear hK K)
      | (with_reducible refine lops_nil ?_)
      | (with_reducible refine lavc_reg ?_)
      | (with_reducible refine lavc_seq ?_)
      | (with_reducible refine lavc_block ?_)
      | (with_reducible refine lavc_skip ?_)
      | (with_reducible refine lavc_exit ?_)
      | (with_reducible refine lavc_ret ?_)
      | (with_reducible refine lavcR_round ?_)
      | (simp only [↓reduceIte, Nat.reduceEqDiff, reduceCtorEq]))
    refine lavc_cond rfl (fun hc => ?_) (fun hc => ?_) <;> try simp only [decide_eq_true_eq, decide_eq_false_iff_not, Int.not_lt, Int.not_le, beq_iff_eq, bne_iff_ne, bne_eq_false_iff_eq, beq_eq_false_iff_ne, ne_eq, Bool.not_eq_true', Bool.not_eq_false'] at hc
    · repeat (first
        | (with_reducible refine lops_step fun K hK => ?_; simp (disch := first | omega | (simp only [go_sem, isRow, isFlat, Option.isSome_some]; done) | assumption | (simp only [ints_length, List.length_replicate, List.length_set, List.length_append, List.length_take, List.length_drop, List.length_cons, List.length_nil] <;> omega) | fail) only [go_sem, Nat.reduceAdd, Nat.reduceSub, reduceIte, Nat.reduceEqDiff, Int.reduceToNat, Int.reduceBEq, Int.reduceBNe]; (repeat (with_reducible refine And.intro (by first | omega | rfl | assumption | decide) ?_)); (first | (refine hK _ _ ?_) | (refine ⟨_, rfl, hK _ _ ?_⟩) | (refine Or.inl (hK _ _ ?_)) | (refine ⟨_, _, Or.inl ((ha.go _).weakQ), (by first | exact ⟨[], (List.append_nil _).symm⟩ | exact ⟨_, rfl⟩), hK _ _ ?_⟩) | (refine ⟨_, _, Or.inl ((ha.go _).weakQ), hK _ _ ?_⟩) | (refine ⟨_, _, Or.inl ((ha.go _).weakQ).weakQ, hK _ _ ?_⟩)); clear hK K)
        | (with_reducible refine lops_nil ?_)
        | (with_reducible refine lavc_reg ?_)
        | (with_reducible refine lavc_seq ?_)
        | (with_reducible refine lavc_block ?_)
        | (with_reducible refine lavc_skip ?_)
        | (with_reducible refine lavc_exit ?_)
        | (with_reducible refine lavc_ret ?_)
        | (with_reducible refine lavcR_round ?_)
        | (simp only [↓reduceIte, Nat.reduceEqDiff, reduceCtorEq]))
      refine And.intro (by simp) ?_
      simp (disch := first | omega | (simp only [go_sem, isRow, isFlat, Option.isSome_some]; done) | assumption | (simp only [ints_length, List.length_replicate, List.length_set, List.length_append, List.length_take, List.length_drop, List.length_cons, List.length_nil] <;> omega) | fail) only [go_sem, Nat.reduceAdd, Nat.reduceSub, reduceIte, Nat.reduceEqDiff, Int.reduceToNat, Int.reduceBEq, Int.reduceBNe, aret, aretL, aret1, aenv]
      (repeat (with_reducible refine And.intro (by first | omega | rfl | assumption | decide) ?_))
      exact end0 (NR.v _) rfl
    · cases hc
  have d1 : decide ((x0.length : Int) > 100) = false := by simp; omega
  by_cases h2 : 100 < x1.length
  · have d2 : decide ((x1.length : Int) > 100) = true := by simp; omega
    repeat (first
      | (with_reducible refine lops_step fun K hK => ?_; simp (disch := first | omega | (simp only [go_sem, isRow, isFlat, Option.isSome_some]; done) | assumption | (simp only [ints_length, List.length_replicate, List.length_set, List.length_append, List.length_take, List.length_drop, List.length_cons, List.length_nil] <;> omega) | fail) only [go_sem, Nat.reduceAdd, Nat.reduceSub, reduceIte, Nat.reduceEqDiff, Int.reduceToNat, Int.reduceBEq, Int.reduceBNe, d1, d2]; (repeat (with_reducible refine And.intro (by first | omega | rfl | assumption | decide) ?_)); (first | (refine hK _ _ ?_) | (refine ⟨_, rfl, hK _ _ ?_⟩) | (refine Or.inl (hK _ _ ?_)) | (refine ⟨_, _, Or.inl ((ha.go _).weakQ), (by first | exact ⟨[], (List.append_nil _).symm⟩ | exact ⟨_, rfl⟩), hK _ _ ?_⟩) | (refine ⟨_, _, Or.inl ((ha.go _).weakQ), hK _ _ ?_⟩) | (refine ⟨_, _, Or.inl ((ha.go _).weakQ).weakQ, hK _ _ ?_⟩)); clear hK K)
      | (with_reducible refine lops_nil ?_)
      | (with_reducible refine lavc_reg ?_)
      | (with_reducible refine lavc_seq ?_)
      | (with_reducible refine lavc_block ?_)
      | (with_reducible refine lavc_skip ?_)
      | (with_reducible refine lavc_exit ?_)
      | (with_reducible refine lavc_ret ?_)
      | (with_reducible refine lavcR_round ?_)
      | (simp only [↓reduceIte, Nat.reduceEqDiff, reduceCtorEq]))
    refine lavc_cond rfl (fun hc => ?_) (fun hc => ?_) <;> try simp only [decide_eq_true_eq, decide_eq_false_iff_not, Int.not_lt, Int.not_le, beq_iff_eq, bne_iff_ne, bne_eq_false_iff_eq, beq_eq_false_iff_ne, ne_eq, Bool.not_eq_true', Bool.not_eq_false'] at hc
    · repeat (first
        | (with_reducible refine lops_step fun K hK => ?_; simp (disch := first | omega | (simp only [go_sem, isRow, isFlat, Option.isSome_some]; done) | assumption | (simp only [ints_length, List.length_replicate, List.length_set, List.length_append, List.length_take, List.length_drop, List.length_cons, List.length_nil] <;> omega) | fail) only [go_sem, Nat.reduceAdd, Nat.reduceSub, reduceIte, Nat.reduceEqDiff, Int.reduceToNat, Int.reduceBEq, Int.reduceBNe]; (repeat (with_reducible refine And.intro (by first | omega | rfl | assumption | decide) ?_)); (first | (refine hK _ _ ?_) | (refine ⟨_, rfl, hK _ _ ?_⟩) | (refine Or.inl (hK _ _ ?_)) | (refine ⟨_, _, Or.inl ((ha.go _).weakQ), (by first | exact ⟨[], (List.append_nil _).symm⟩ | exact ⟨_, rfl⟩), hK _ _ ?_⟩) | (refine ⟨_, _, Or.inl ((ha.go _).weakQ), hK _ _ ?_⟩) | (refine ⟨_, _, Or.inl ((ha.go _).weakQ).weakQ, hK _ _ ?_⟩)); clear hK K)
        | (with_reducible refine lops_nil ?_)
        | (with_reducible refine lavc_reg ?_)
        | (with_reducible refine lavc_seq ?_)
        | (with_reducible refine lavc_block ?_)
        | (with_reducible refine lavc_skip ?_)
        | (with_reducible refine lavc_exit ?_)
        | (with_reducible refine lavc_ret ?_)
        | (with_reducible refine lavcR_round ?_)
        | (simp only [↓reduceIte, Nat.reduceEqDiff, reduceCtorEq]))
      refine And.intro (by simp) ?_
      simp (disch := first | omega | (simp only [go_sem, isRow, isFlat, Option.isSome_some]; done) | assumption | (simp only [ints_length, List.length_replicate, List.length_set, List.length_append, List.length_take, List.length_drop, List.length_cons, List.length_nil] <;> omega) | fail) only [go_sem, Nat.reduceAdd, Nat.reduceSub, reduceIte, Nat.reduceEqDiff, Int.reduceToNat, Int.reduceBEq, Int.reduceBNe, aret, aretL, aret1, aenv]
      (repeat (with_reducible refine And.intro (by first | omega | rfl | assumption | decide) ?_))
      exact end0 (NR.v _) rfl
    · cases hc
  have d2 : decide ((x1.length : Int) > 100) = false := by simp; omega
  have g1 := Good_p a b c d
  have g2 := refGood_p a b c d
  repeat (first
    | (with_reducible refine lops_step fun K hK => ?_; simp (disch := first | omega | (simp only [go_sem, isRow, isFlat, Option.isSome_some]; done) | assumption | (simp only [ints_length, List.length_replicate, List.length_set, List.length_append, List.length_take, List.length_drop, List.length_cons, List.length_nil] <;> omega) | fail) only [go_sem, Nat.reduceAdd, Nat.reduceSub, reduceIte, Nat.reduceEqDiff, Int.reduceToNat, Int.reduceBEq, Int.reduceBNe, d1, d2]; (repeat (with_reducible refine And.intro (by first | omega | rfl | assumption | decide) ?_)); (first | (refine hK _ _ ?_) | (refine ⟨_, rfl, hK _ _ ?_⟩) | (refine Or.inl (hK _ _ ?_)) | (refine ⟨_, _, Or.inl ((ha.go _).weakQ), (by first | exact ⟨[], (List.append_nil _).symm⟩ | exact ⟨_, rfl⟩), hK _ _ ?_⟩) | (refine ⟨_, _, Or.inl ((ha.go _).weakQ), hK _ _ ?_⟩) | (refine ⟨_, _, Or.inl ((ha.go _).weakQ).weakQ, hK _ _ ?_⟩)); clear hK K)
    | (with_reducible refine lops_nil ?_)
    | (with_reducible refine lavc_reg ?_)
    | (with_reducible refine lavc_seq ?_)
    | (with_reducible refine lavc_block ?_)
    | (with_reducible refine lavc_skip ?_)
    | (with_reducible refine lavc_exit ?_)
    | (with_reducible refine lavc_ret ?_)
    | (with_reducible refine lavcR_round ?_)
    | (simp only [↓reduceIte, Nat.reduceEqDiff, reduceCtorEq]))
  refine lavc_cond rfl (fun hc => ?_) (fun hc => ?_) <;> try simp only [decide_eq_true_eq, decide_eq_false_iff_not, Int.not_lt, Int.not_le, beq_iff_eq, bne_iff_ne, bne_eq_false_iff_eq, beq_eq_false_iff_ne, ne_eq, Bool.not_eq_true', Bool.not_eq_false'] at hc
  · cases hc
  by_cases hg : goodC a b c = false
  · rw [hg] at g1 g2
    have hb := fun c1 c2 => Hash_bad1 x0 x1 c1 c2 a b c d n hg
    repeat (first
      | (with_reducible refine lops_step fun K hK => ?_; simp (disch := first | omega | (simp only [go_sem, isRow, isFlat, Option.isSome_some]; done) | assumption | (simp only [ints_length, List.length_replicate, List.length_set, List.length_append, List.length_take, List.length_drop, List.length_cons, List.length_nil] <;> omega) | fail) only [go_sem, Nat.reduceAdd, Nat.reduceSub, reduceIte, Nat.reduceEqDiff, Int.reduceToNat, Int.reduceBEq, Int.reduceBNe]; (try (first | (refine And.intro (fun _ => ?_) (fun h => absurd h (by decide))) | (refine And.intro (fun h => absurd h (by decide)) (fun _ => ?_)))); (repeat (with_reducible refine And.intro (by first | omega | rfl | assumption | decide) ?_)); (first | (refine hK _ _ ?_) | (refine ⟨_, rfl, hK _ _ ?_⟩) | (refine Or.inl (hK _ _ ?_)) | (refine ⟨_, _, Or.inl (g1.go _), (by first | exact ⟨[], (List.append_nil _).symm⟩ | exact ⟨_, rfl⟩), hK _ _ ?_⟩) | (refine ⟨_, _, Or.inl (g1.go _), hK _ _ ?_⟩) | (refine ⟨_, _, Or.inl (g1.go _).weakQ, hK _ _ ?_⟩) | (refine ⟨_, _, Or.inl (g2.go _), (by first | exact ⟨[], (List.append_nil _).symm⟩ | exact ⟨_, rfl⟩), hK _ _ ?_⟩) | (refine ⟨_, _, Or.inl (g2.go _), hK _ _ ?_⟩) | (refine ⟨_, _, Or.inl (g2.go _).weakQ, hK _ _ ?_⟩) | (refine ⟨_, _, Or.inl ((hb _ _).go _), (by first | exact ⟨[], (List.append_nil _).symm⟩ | exact ⟨_, rfl⟩), hK _ _ ?_⟩) | (refine ⟨_, _, Or.inl ((hb _ _).go _), hK _ _ ?_⟩) | (refine ⟨_, _, Or.inl ((hb _ _).go _).weakQ, hK _ _ ?_⟩)); clear hK K)
      | (with_reducible refine lops_nil ?_)
      | (with_reducible refine lavc_reg ?_)
      | (with_reducible refine lavc_seq ?_)
      | (with_reducible refine lavc_block ?_)
      | (with_reducible refine lavc_skip ?_)
      | (with_reducible refine lavc_exit ?_)
      | (with_reducible refine lavc_ret ?_)
      | (with_reducible refine lavcR_round ?_)
      | (refine lavc_cond rfl (fun _ => ?_) (fun hc => absurd hc (by decide)))
      | (refine lavc_cond rfl (fun hc => absurd hc (by decide)) (fun _ => ?_))
      | (simp only [↓reduceIte, Nat.reduceEqDiff, reduceCtorEq]))
    refine And.intro (by simp) ?_
    simp (disch := first | omega | (simp only [go_sem, isRow, isFlat, Option.isSome_some]; done) | assumption | (simp only [ints_length, List.length_replicate, List.length_set, List.length_append, List.length_take, List.length_drop, List.length_cons, List.length_nil] <;> omega) | fail) only [go_sem, Nat.reduceAdd, Nat.reduceSub, reduceIte, Nat.reduceEqDiff, Int.reduceToNat, Int.reduceBEq, Int.reduceBNe, aret, aretL, aret1, aenv]
    (repeat (with_reducible refine And.intro (by first | omega | rfl | assumption | decide) ?_))
    exact end0 (NR.v _) rfl
  have hg : goodC a b c = true := by simpa using hg
  have hgc := hg
  unfold goodC at hgc
  rw [decide_eq_true_eq] at hgc
  rw [hg] at g1 g2
  obtain ⟨M, rfl⟩ := Int.eq_ofNat_of_zero_le (show 0 ≤ a by omega)
  obtain ⟨Ps, rfl⟩ := Int.eq_ofNat_of_zero_le (show 0 ≤ b by omega)
  obtain ⟨L, rfl⟩ := Int.eq_ofNat_of_zero_le (show 0 ≤ c by omega)
  have hL : L = 1 ∨ L = 2 := by omega
  have m1 : M * Ps ≤ 64 * 4 := Nat.mul_le_mul (by omega) (by omega)
  have m2 : M * Ps * L ≤ 64 * 4 * 2 := Nat.mul_le_mul m1 (by omega)
  have y1 := i64n ((M : Int) * (Ps : Int)) (M * Ps) (mulN _ _) (by omega)
  have y2 := i64n (((M * Ps : Nat) : Int) * (L : Int)) (M * Ps * L) (mulN _ _) (by omega)
  obtain ⟨X, hX⟩ : ∃ X, M * Ps * L = X := ⟨_, rfl⟩
  rw [hX] at y2
  by_cases h80 : 80 < X
  · have d3 : decide ((X : Int) > 80) = true := by rw [decide_eq_true_eq]; omega
    repeat (first
      | (with_reducible refine lops_step fun K hK => ?_; simp (disch := first | omega | (simp only [go_sem, isRow, isFlat, Option.isSome_some]; done) | assumption | (simp only [ints_length, List.length_replicate, List.length_set, List.length_append, List.length_take, List.length_drop, List.length_cons, List.length_nil] <;> omega) | fail) only [go_sem, Nat.reduceAdd, Nat.reduceSub, reduceIte, Nat.reduceEqDiff, Int.reduceToNat, Int.reduceBEq, Int.reduceBNe, y1, y2, d3]; (try (first | (refine And.intro (fun _ => ?_) (fun h => absurd h (by decide))) | (refine And.intro (fun h => absurd h (by decide)) (fun _ => ?_)))); (repeat (with_reducible refine And.intro (by first | omega | rfl | assumption | decide) ?_)); (first | (refine hK _ _ ?_) | (refine ⟨_, rfl, hK _ _ ?_⟩) | (refine Or.inl (hK _ _ ?_)) | (refine ⟨_, _, Or.inl (g1.go _), (by first | exact ⟨[], (List.append_nil _).symm⟩ | exact ⟨_, rfl⟩), hK _ _ ?_⟩) | (refine ⟨_, _, Or.inl (g1.go _), hK _ _ ?_⟩) | (refine ⟨_, _, Or.inl (g1.go _).weakQ, hK _ _ ?_⟩) | (refine ⟨_, _, Or.inl (g2.go _), (by first | exact ⟨[], (List.append_nil _).symm⟩ | exact ⟨_, rfl⟩), hK _ _ ?_⟩) | (refine ⟨_, _, Or.inl (g2.go _), hK _ _ ?_⟩) | (refine ⟨_, _, Or.inl (g2.go _).weakQ, hK _ _ ?_⟩)); clear hK K)
      | (with_reducible refine lops_nil ?_)
      | (with_reducible refine lavc_reg ?_)
      | (with_reducible refine lavc_seq ?_)
      | (with_reducible refine lavc_block ?_)
      | (with_reducible refine lavc_skip ?_)
      | (with_reducible refine lavc_exit ?_)
      | (with_reducible refine lavc_ret ?_)
      | (with_reducible refine lavcR_round ?_)
      | (refine lavc_cond rfl (fun _ => ?_) (fun hc => absurd hc (by decide)))
      | (refine lavc_cond rfl (fun hc => absurd hc (by decide)) (fun _ => ?_))
      | (simp only [↓reduceIte, Nat.reduceEqDiff, reduceCtorEq]))
    refine And.intro (by simp) ?_
    simp (disch := first | omega | (simp only [go_sem, isRow, isFlat, Option.isSome_some]; done) | assumption | (simp only [ints_length, List.length_replicate, List.length_set, List.length_append, List.length_take, List.length_drop, List.length_cons, List.length_nil] <;> omega) | fail) only [go_sem, Nat.reduceAdd, Nat.reduceSub, reduceIte, Nat.reduceEqDiff, Int.reduceToNat, Int.reduceBEq, Int.reduceBNe, aret, aretL, aret1, aenv]
    (repeat (with_reducible refine And.intro (by first | omega | rfl | assumption | decide) ?_))
    exact end0 (NR.v _) rfl
  have d3 : decide ((X : Int) > 80) = false := by rw [decide_eq_false_iff_not]; omega
  by_cases hn : n < 1 ∨ 64 < n
  · have hb := fun c1 c2 => Hash_bad2 x0 x1 c1 c2 M Ps L d n hg hn
    rcases hn with hn | hn
    · have d4 : decide (n < 1) = true := by rw [decide_eq_true_eq]; omega
      repeat (first
        | (with_reducible refine lops_step fun K hK => ?_; simp (disch := first | omega | (simp only [go_sem, isRow, isFlat, Option.isSome_some]; done) | assumption | (simp only [ints_length, List.length_replicate, List.length_set, List.length_append, List.length_take, List.length_drop, List.length_cons, List.length_nil] <;> omega) | fail) only [go_sem, Nat.reduceAdd, Nat.reduceSub, reduceIte, Nat.reduceEqDiff, Int.reduceToNat, Int.reduceBEq, Int.reduceBNe, y1, y2, d3, d4]; (try (first | (refine And.intro (fun _ => ?_) (fun h => absurd h (by decide))) | (refine And.intro (fun h => absurd h (by decide)) (fun _ => ?_)))); (repeat (with_reducible refine And.intro (by first | omega | rfl | assumption | decide) ?_)); (first | (refine hK _ _ ?_) | (refine ⟨_, rfl, hK _ _ ?_⟩) | (refine Or.inl (hK _ _ ?_)) | (refine ⟨_, _, Or.inl (g1.go _), (by first | exact ⟨[], (List.append_nil _).symm⟩ | exact ⟨_, rfl⟩), hK _ _ ?_⟩) | (refine ⟨_, _, Or.inl (g1.go _), hK _ _ ?_⟩) | (refine ⟨_, _, Or.inl (g1.go _).weakQ, hK _ _ ?_⟩) | (refine ⟨_, _, Or.inl (g2.go _), (by first | exact ⟨[], (List.append_nil _).symm⟩ | exact ⟨_, rfl⟩), hK _ _ ?_⟩) | (refine ⟨_, _, Or.inl (g2.go _), hK _ _ ?_⟩) | (refine ⟨_, _, Or.inl (g2.go _).weakQ, hK _ _ ?_⟩) | (refine ⟨_, _, Or.inl ((hb _ _).go _), (by first | exact ⟨[], (List.append_nil _).symm⟩ | exact ⟨_, rfl⟩), hK _ _ ?_⟩) | (refine ⟨_, _, Or.inl ((hb _ _).go _), hK _ _ ?_⟩) | (refine ⟨_, _, Or.inl ((hb _ _).go _).weakQ, hK _ _ ?_⟩)); clear hK K)
        | (with_reducible refine lops_nil ?_)
        | (with_reducible refine lavc_reg ?_)
        | (with_reducible refine lavc_seq ?_)
        | (with_reducible refine lavc_block ?_)
        | (with_reducible refine lavc_skip ?_)
        | (with_reducible refine lavc_exit ?_)
        | (with_reducible refine lavc_ret ?_)
        | (with_reducible refine lavcR_round ?_)
        | (refine lavc_cond rfl (fun _ => ?_) (fun hc => absurd hc (by decide)))
        | (refine lavc_cond rfl (fun hc => absurd hc (by decide)) (fun _ => ?_))
        | (simp only [↓reduceIte, Nat.reduceEqDiff, reduceCtorEq]))
      refine And.intro (by simp) ?_
      simp (disch := first | omega | (simp only [go_sem, isRow, isFlat, Option.isSome_some]; done) | assumption | (simp only [ints_length, List.length_replicate, List.length_set, List.length_append, List.length_take, List.length_drop, List.length_cons, List.length_nil] <;> omega) | fail) only [go_sem, Nat.reduceAdd, Nat.reduceSub, reduceIte, Nat.reduceEqDiff, Int.reduceToNat, Int.reduceBEq, Int.reduceBNe, aret, aretL, aret1, aenv]
      (repeat (with_reducible refine And.intro (by first | omega | rfl | assumption | decide) ?_))
      exact end0 (NR.v _) rfl
    · have d4 : decide (n < 1) = false := by rw [decide_eq_false_iff_not]; omega
      have d5 : decide (n > 64) = true := by rw [decide_eq_true_eq]; omega
      repeat (first
        | (with_reducible refine lops_step fun K hK => ?_; simp (disch := first | omega | (simp only [go_sem, isRow, isFlat, Option.isSome_some]; done) | assumption | (simp only [ints_length, List.length_replicate, List.length_set, List.length_append, List.length_take, List.length_drop, List.length_cons, List.length_nil] <;> omega) | fail) only [go_sem, Nat.reduceAdd, Nat.reduceSub, reduceIte, Nat.reduceEqDiff, Int.reduceToNat, Int.reduceBEq, Int.reduceBNe, y1, y2, d3, d4, d5]; (try (first | (refine And.intro (fun _ => ?_) (fun h => absurd h (by decide))) | (refine And.intro (fun h => absurd h (by decide)) (fun _ => ?_)))); (repeat (with_reducible refine And.intro (by first | omega | rfl | assumption | decide) ?_)); (first | (refine hK _ _ ?_) | (refine ⟨_, rfl, hK _ _ ?_⟩) | (refine Or.inl (hK _ _ ?_)) | (refine ⟨_, _, Or.inl (g1.go _), (by first | exact ⟨[], (List.append_nil _).symm⟩ | exact ⟨_, rfl⟩), hK _ _ ?_⟩) | (refine ⟨_, _, Or.inl (g1.go _), hK _ _ ?_⟩) | (refine ⟨_, _, Or.inl (g1.go _).weakQ, hK _ _ ?_⟩) | (refine ⟨_, _, Or.inl (g2.go _), (by first | exact ⟨[], (List.append_nil _).symm⟩ | exact ⟨_, rfl⟩), hK _ _ ?_⟩) | (refine ⟨_, _, Or.inl (g2.go _), hK _ _ ?_⟩) | (refine ⟨_, _, Or.inl (g2.go _).weakQ, hK _ _ ?_⟩) | (refine ⟨_, _, Or.inl ((hb _ _).go _), (by first | exact ⟨[], (List.append_nil _).symm⟩ | exact ⟨_, rfl⟩), hK _ _ ?_⟩) | (refine ⟨_, _, Or.inl ((hb _ _).go _), hK _ _ ?_⟩) | (refine ⟨_, _, Or.inl ((hb _ _).go _).weakQ, hK _ _ ?_⟩)); clear hK K)
        | (with_reducible refine lops_nil ?_)
        | (with_reducible refine lavc_reg ?_)
        | (with_reducible refine lavc_seq ?_)
        | (with_reducible refine lavc_block ?_)
        | (with_reducible refine lavc_skip ?_)
        | (with_reducible refine lavc_exit ?_)
        | (with_reducible refine lavc_ret ?_)
        | (with_reducible refine lavcR_round ?_)
        | (refine lavc_cond rfl (fun _ => ?_) (fun hc => absurd hc (by decide)))
        | (refine lavc_cond rfl (fun hc => absurd hc (by decide)) (fun _ => ?_))
        | (simp only [↓reduceIte, Nat.reduceEqDiff, reduceCtorEq]))
      refine And.intro (by simp) ?_
      simp (disch := first | omega | (simp only [go_sem, isRow, isFlat, Option.isSome_some]; done) | assumption | (simp only [ints_length, List.length_replicate, List.length_set, List.length_append, List.length_take, List.length_drop, List.length_cons, List.length_nil] <;> omega) | fail) only [go_sem, Nat.reduceAdd, Nat.reduceSub, reduceIte, Nat.reduceEqDiff, Int.reduceToNat, Int.reduceBEq, Int.reduceBNe, aret, aretL, aret1, aenv]
      (repeat (with_reducible refine And.intro (by first | omega | rfl | assumption | decide) ?_))
      exact end0 (NR.v _) rfl
  obtain ⟨k, rfl⟩ := Int.eq_ofNat_of_zero_le (show 0 ≤ n by omega)
  have d4 : decide ((k : Int) < 1) = false := by rw [decide_eq_false_iff_not]; omega
  have d5 : decide ((k : Int) > 64) = false := by rw [decide_eq_false_iff_not]; omega
  have hh := fun c1 c2 => hash_p x0 x1 c1 c2 M Ps L k d (by omega) (by omega) hL (by omega) (by omega) (by omega) b0 b1
  have hr := fun c1 c2 => refHash_p x0 x1 c1 c2 M Ps L k d (by omega) (by omega) hL (by omega) (by omega) (by omega) b0 b1
  have hl := hashP_len x0 x1 M Ps L k
  obtain ⟨Z, hZ⟩ : ∃ Z, hashP x0 x1 M Ps L k = Z := ⟨_, rfl⟩
  simp only [hZ] at hh hr hl
  repeat (first
    | (with_reducible refine lops_step fun K hK => ?_; simp (disch := first | omega | (simp only [go_sem, isRow, isFlat, Option.isSome_some]; done) | assumption | (simp only [ints_length, List.length_replicate, List.length_set, List.length_append, List.length_take, List.length_drop, List.length_cons, List.length_nil] <;> omega) | fail) only [go_sem, Nat.reduceAdd, Nat.reduceSub, reduceIte, Nat.reduceEqDiff, Int.reduceToNat, Int.reduceBEq, Int.reduceBNe, y1, y2, d3, d4, d5, hl]; (try (first | (refine And.intro (fun _ => ?_) (fun h => absurd h (by decide))) | (refine And.intro (fun h => absurd h (by decide)) (fun _ => ?_)))); (repeat (with_reducible refine And.intro (by first | omega | rfl | assumption | decide) ?_)); (first | (refine hK _ _ ?_) | (refine ⟨_, rfl, hK _ _ ?_⟩) | (refine Or.inl (hK _ _ ?_)) | (refine ⟨_, _, Or.inl (g1.go _), (by first | exact ⟨[], (List.append_nil _).symm⟩ | exact ⟨_, rfl⟩), hK _ _ ?_⟩) | (refine ⟨_, _, Or.inl (g1.go _), hK _ _ ?_⟩) | (refine ⟨_, _, Or.inl (g1.go _).weakQ, hK _ _ ?_⟩) | (refine ⟨_, _, Or.inl (g2.go _), (by first | exact ⟨[], (List.append_nil _).symm⟩ | exact ⟨_, rfl⟩), hK _ _ ?_⟩) | (refine ⟨_, _, Or.inl (g2.go _), hK _ _ ?_⟩) | (refine ⟨_, _, Or.inl (g2.go _).weakQ, hK _ _ ?_⟩) | (refine ⟨_, _, Or.inl ((hh _ _).go _), (by first | exact ⟨[], (List.append_nil _).symm⟩ | exact ⟨_, rfl⟩), hK _ _ ?_⟩) | (refine ⟨_, _, Or.inl ((hh _ _).go _), hK _ _ ?_⟩) | (refine ⟨_, _, Or.inl ((hh _ _).go _).weakQ, hK _ _ ?_⟩) | (refine ⟨_, _, Or.inl ((hr _ _).go _), (by first | exact ⟨[], (List.append_nil _).symm⟩ | exact ⟨_, rfl⟩), hK _ _ ?_⟩) | (refine ⟨_, _, Or.inl ((hr _ _).go _), hK _ _ ?_⟩) | (refine ⟨_, _, Or.inl ((hr _ _).go _).weakQ, hK _ _ ?_⟩)); clear hK K)
    | (with_reducible refine lops_nil ?_)
    | (with_reducible refine lavc_reg ?_)
    | (with_reducible refine lavc_seq ?_)
    | (with_reducible refine lavc_block ?_)
    | (with_reducible refine lavc_skip ?_)
    | (with_reducible refine lavc_exit ?_)
    | (with_reducible refine lavc_ret ?_)
    | (with_reducible refine lavcR_round ?_)
    | (refine lavc_cond rfl (fun _ => ?_) (fun hc => absurd hc (by decide)))
    | (refine lavc_cond rfl (fun hc => absurd hc (by decide)) (fun _ => ?_))
    | (simp only [↓reduceIte, Nat.reduceEqDiff, reduceCtorEq]))
  refine And.intro (by simp) ?_
  simp (disch := first | omega | (simp only [go_sem, isRow, isFlat, Option.isSome_some]; done) | assumption | (simp only [ints_length, List.length_replicate, List.length_set, List.length_append, List.length_take, List.length_drop, List.length_cons, List.length_nil] <;> omega) | fail) only [go_sem, Nat.reduceAdd, Nat.reduceSub, reduceIte, Nat.reduceEqDiff, Int.reduceToNat, Int.reduceBEq, Int.reduceBNe, aret, aretL, aret1, aenv]
  (repeat (with_reducible refine And.intro (by first | omega | rfl | assumption | decide) ?_))
  exact end0 (NR.v _) rfl
end Go.Abs.S
