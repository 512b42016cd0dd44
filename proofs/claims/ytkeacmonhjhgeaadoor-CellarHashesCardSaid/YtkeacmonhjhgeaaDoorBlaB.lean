/- blake's mixing of four words, in the program and in the reference. -/
import Derived.Test.YtkeacmonhjhgeaaDoorBlaA
namespace Go.Abs.S
attribute [local go_sem] lguard aopO aop nxL aenv toAV tput aLoad aStore vcells aBin aNilI aUn aAlloc aBox aBuild aBSlice afill aConv isIntT aappZ aCap aArr aMM aMake aSlice bnd3 bnd aFldAddr aFld aIdxAddr aIdx aExt aLen aCopy aEq0 bAV aUb aapp aappQ agh acont List.getD_cons_zero List.getD_cons_succ List.set_cons_zero List.set_cons_succ List.getElem?_cons_zero List.getElem?_cons_succ List.length_cons List.length_nil List.map_cons List.map_nil ints_length if_true if_false Bool.false_eq_true true_and and_true eq_self ne_eq not_false_eq_true not_true_eq_false beq_self_eq_true Nat.zero_add Nat.add_zero Nat.mul_one Nat.zero_mul Int.toNat_natCast List.toList_toArray List.all_cons List.all_nil AV.one Value.oneCell' Bool.and_true Bool.true_and forall_const true_implies false_implies implies_true Option.map_some Option.map_none Option.isSome_some Option.isSome_none imp_self rdP_flat rdP_row splice_one ints_set ints_get List.append_nil List.cons_append List.nil_append List.getElem?_toArray List.drop_zero ints_drop ints_take List.take_of_length_le splice_all ints_one Option.some.injEq Option.getD_some List.length_replicate zArr List.map_replicate rep_ints splice_intsR List.length_set List.length_append List.flatten_replicate_singleton rep_slice rep_string rep_bool rep_iface List.replicate_zero if_pos if_neg List.mapM_cons List.mapM_nil Option.pure_def Option.bind_eq_bind Option.bind_some Bool.true_eq_false Bool.not_false Bool.not_true get_concat set_concat
open Go.Proofs
open Go.Abs.B
set_option linter.unusedVariables false
set_option linter.unusedSimpArgs false
set_option maxRecDepth 100000
set_option maxHeartbeats 2000000
theorem wrap_m (x : Int) : IntKind.u64.wrap x = m64 x := IntKind.wrap_u64 x
theorem m64_in (x y : Int) : m64 (x + m64 y) = m64 (x + y) := by unfold m64; omega
theorem m64_in' (x y : Int) : m64 (m64 x + y) = m64 (x + y) := by unfold m64; omega
theorem mix_m (l : List Int) (a b c d v e : Nat) (x y : Int) (hl : l.length = 16) (hw : W64 l) (ha : a < 16) (hb : b < 16) (hc : c < 16) (hd : d < 16) :
    MCall Tryd.prog glob 36 [.agg (ints .i64 [(a : Int), (b : Int), (c : Int), (d : Int)]), .v (.int .u64 x), .v (.int .u64 y)] ⟨ints .u64 l, v, true, e⟩ (.tup []) ⟨ints .u64 (gmix l a b c d x y), v, true, e⟩ := by
  refine MCall.of ctx.nr rfl rfl (by (repeat (refine List.forall_mem_cons.2 (And.intro (by first | exact NR.v _ | exact NR.agg (NR.ints _ _) | exact NR.vsl (NR.ints _ _) | exact NR.vptr (NR.ints _ _) | assumption) ?_))); exact fun _ h => absurd h List.not_mem_nil) NR.tup0 (NR.ints _ _) (NR.ints _ _) ?_
  refine lcall36 (by simp) 1 (Nat.le_refl _) ?_
  unfold lc36
  simp only [List.length_cons, List.length_nil, Nat.reduceAdd, Nat.reduceSub, List.replicate_succ, List.replicate_zero, List.cons_append, List.nil_append]
  have g0 : ([(a : Int), (b : Int), (c : Int), (d : Int)] : List Int).getD 0 0 = (a : Int) := rfl
  have g1 : ([(a : Int), (b : Int), (c : Int), (d : Int)] : List Int).getD 1 0 = (b : Int) := rfl
  have g2 : ([(a : Int), (b : Int), (c : Int), (d : Int)] : List Int).getD 2 0 = (c : Int) := rfl
  have g3 : ([(a : Int), (b : Int), (c : Int), (d : Int)] : List Int).getD 3 0 = (d : Int) := rfl
  have eA : ∀ (L : List Int) (i j : Nat) (z : Int), L.set i (m64 (L.getD i 0 + (L.getD j 0 + z))) = gA L i j z := fun L i j z => by rw [gA, Int.add_assoc]
  have eC : ∀ (L : List Int) (i j : Nat), L.set i (m64 (L.getD i 0 + L.getD j 0)) = gC L i j := fun _ _ _ => rfl
  have eD : ∀ (L : List Int) (i j n : Nat), L.set i (rotr (xor64 (L.getD i 0) (L.getD j 0)) n) = gD L i j n := fun _ _ _ _ => rfl
  obtain ⟨l1, h1⟩ : ∃ z, gA l a b x = z := ⟨_, rfl⟩
  have w1 : W64 l1 := h1 ▸ hw.gA a b x
  have n1 : l1.length = 16 := by rw [← h1, gA_length, hl]
  have x1 := xor64_p _ _ (w1.get d) (w1.get a)
  have c1 := rot_p _ (-32) 32 ((w1.get d).xor (w1.get a)) (.inl ⟨rfl, rfl⟩)
  obtain ⟨l2, h2⟩ : ∃ z, gD l1 d a 32 = z := ⟨_, rfl⟩
  have w2 : W64 l2 := h2 ▸ w1.gD d a (.inl rfl)
  have n2 : l2.length = 16 := by rw [← h2, gD_length, n1]
  obtain ⟨l3, h3⟩ : ∃ z, gC l2 c d = z := ⟨_, rfl⟩
  have w3 : W64 l3 := h3 ▸ w2.gC c d
  have n3 : l3.length = 16 := by rw [← h3, gC_length, n2]
  have x3 := xor64_p _ _ (w3.get b) (w3.get c)
  have c3 := rot_p _ (-24) 24 ((w3.get b).xor (w3.get c)) (.inr (.inl ⟨rfl, rfl⟩))
  obtain ⟨l4, h4⟩ : ∃ z, gD l3 b c 24 = z := ⟨_, rfl⟩
  have w4 : W64 l4 := h4 ▸ w3.gD b c (.inr (.inl rfl))
  have n4 : l4.length = 16 := by rw [← h4, gD_length, n3]
  obtain ⟨l5, h5⟩ : ∃ z, gA l4 a b y = z := ⟨_, rfl⟩
  have w5 : W64 l5 := h5 ▸ w4.gA a b y
  have n5 : l5.length = 16 := by rw [← h5, gA_length, n4]
  have x5 := xor64_p _ _ (w5.get d) (w5.get a)
  have c5 := rot_p _ (-16) 16 ((w5.get d).xor (w5.get a)) (.inr (.inr (.inl ⟨rfl, rfl⟩)))
  obtain ⟨l6, h6⟩ : ∃ z, gD l5 d a 16 = z := ⟨_, rfl⟩
  have w6 : W64 l6 := h6 ▸ w5.gD d a (.inr (.inr (.inl rfl)))
  have n6 : l6.length = 16 := by rw [← h6, gD_length, n5]
  obtain ⟨l7, h7⟩ : ∃ z, gC l6 c d = z := ⟨_, rfl⟩
  have w7 : W64 l7 := h7 ▸ w6.gC c d
  have n7 : l7.length = 16 := by rw [← h7, gC_length, n6]
  have x7 := xor64_p _ _ (w7.get b) (w7.get c)
  have c7 := rot_p _ (-63) 63 ((w7.get b).xor (w7.get c)) (.inr (.inr (.inr ⟨rfl, rfl⟩)))
  have h8 : gD l7 b c 63 = gmix l a b c d x y := by rw [← h7, ← h6, ← h5, ← h4, ← h3, ← h2, ← h1]; rfl
  repeat (first
    | (with_reducible refine lops_step fun K hK => ?_; simp (disch := first | omega | (simp only [go_sem, isRow, isFlat, Option.isSome_some]; done) | assumption | (simp only [ints_length, List.length_replicate, List.length_set, List.length_append, List.length_take, List.length_drop, List.length_cons, List.length_nil] <;> omega) | fail) only [go_sem, Nat.reduceAdd, Nat.reduceSub, reduceIte, Nat.reduceEqDiff, Int.reduceToNat, Int.reduceBEq, Int.reduceBNe, g0, g1, g2, g3, wrap_m, m64_in, eA, eC, eD, h1, h2, h3, h4, h5, h6, h7, h8, x1, x3, x5, x7]; (repeat (with_reducible refine And.intro (by first | omega | rfl | assumption | decide) ?_)); (first | (refine hK _ _ ?_) | (refine ⟨_, rfl, hK _ _ ?_⟩) | (refine Or.inl (hK _ _ ?_)) | (refine ⟨_, _, Or.inl (c1.go _), (by first | exact ⟨[], (List.append_nil _).symm⟩ | exact ⟨_, rfl⟩), hK _ _ ?_⟩) | (refine ⟨_, _, Or.inl (c1.go _), hK _ _ ?_⟩) | (refine ⟨_, _, Or.inl (c1.go _).weakQ, hK _ _ ?_⟩) | (refine ⟨_, _, Or.inl (c3.go _), (by first | exact ⟨[], (List.append_nil _).symm⟩ | exact ⟨_, rfl⟩), hK _ _ ?_⟩) | (refine ⟨_, _, Or.inl (c3.go _), hK _ _ ?_⟩) | (refine ⟨_, _, Or.inl (c3.go _).weakQ, hK _ _ ?_⟩) | (refine ⟨_, _, Or.inl (c5.go _), (by first | exact ⟨[], (List.append_nil _).symm⟩ | exact ⟨_, rfl⟩), hK _ _ ?_⟩) | (refine ⟨_, _, Or.inl (c5.go _), hK _ _ ?_⟩) | (refine ⟨_, _, Or.inl (c5.go _).weakQ, hK _ _ ?_⟩) | (refine ⟨_, _, Or.inl (c7.go _), (by first | exact ⟨[], (List.append_nil _).symm⟩ | exact ⟨_, rfl⟩), hK _ _ ?_⟩) | (refine ⟨_, _, Or.inl (c7.go _), hK _ _ ?_⟩) | (refine ⟨_, _, Or.inl (c7.go _).weakQ, hK _ _ ?_⟩)); clear hK K)
    | (with_reducible refine lops_nil ?_)
    | (with_reducible refine lavc_reg ?_)
    | (with_reducible refine lavc_seq ?_)
    | (with_reducible refine lavc_block ?_)
    | (with_reducible refine lavc_skip ?_)
    | (with_reducible refine lavc_exit ?_)
    | (with_reducible refine lavc_ret ?_)
    | (with_reducible refine lavcR_round ?_)
    | (simp only [↓reduceIte, Nat.reduceEqDiff, reduceCtorEq]))
  refine And.intro (by simp) ?_
  simp (disch := first | omega | (simp only [go_sem, isRow, isFlat, Option.isSome_some]; done) | assumption | (simp only [ints_length, List.length_replicate, List.length_set, List.length_append, List.length_take, List.length_drop, List.length_cons, List.length_nil] <;> omega) | fail) only [go_sem, Nat.reduceAdd, Nat.reduceSub, reduceIte, Nat.reduceEqDiff, Int.reduceToNat, Int.reduceBEq, Int.reduceBNe, aret, aretL, aret1, aenv]
  (repeat (with_reducible refine And.intro (by first | omega | rfl | assumption | decide) ?_))
  exact end1 NR.tup0 rfl (NR.ints _ _) rfl
theorem refMix_p (l : List Int) (a b c d : Nat) (x y : Int) (hl : l.length = 16) (hw : W64 l) (ha : a < 16) (hb : b < 16) (hc : c < 16) (hd : d < 16) :
    PCall Tryd.prog glob 37 [.agg (ints .u64 l), .v (.int .i64 a), .v (.int .i64 b), .v (.int .i64 c), .v (.int .i64 d), .v (.int .u64 x), .v (.int .u64 y)] (.agg (ints .u64 (gmix l a b c d x y))) := by
  refine PCall.of ctx.nr (by (repeat (refine List.forall_mem_cons.2 (And.intro (by first | exact NR.v _ | exact NR.agg (NR.ints _ _) | exact NR.vsl (NR.ints _ _) | exact NR.vptr (NR.ints _ _) | assumption) ?_))); exact fun _ h => absurd h List.not_mem_nil) (NR.agg (NR.ints _ _)) ?_
  refine lcall37 (by simp) 0 (Nat.le_refl _) ?_
  unfold lc37
  simp only [List.length_cons, List.length_nil, Nat.reduceAdd, Nat.reduceSub, List.replicate_succ, List.replicate_zero, List.cons_append, List.nil_append]
  have eA : ∀ (L : List Int) (i j : Nat) (z : Int), L.set i (m64 (L.getD i 0 + L.getD j 0 + z)) = gA L i j z := fun L i j z => rfl
  have eC : ∀ (L : List Int) (i j : Nat), L.set i (m64 (L.getD i 0 + L.getD j 0)) = gC L i j := fun _ _ _ => rfl
  have eD : ∀ (L : List Int) (i j n : Nat), L.set i (rotr (xor64 (L.getD i 0) (L.getD j 0)) n) = gD L i j n := fun _ _ _ _ => rfl
  obtain ⟨l1, h1⟩ : ∃ z, gA l a b x = z := ⟨_, rfl⟩
  have w1 : W64 l1 := h1 ▸ hw.gA a b x
  have n1 : l1.length = 16 := by rw [← h1, gA_length, hl]
  have x1 := xor64_p _ _ (w1.get d) (w1.get a)
  have c1 := refTurn_p _ 32 ((w1.get d).xor (w1.get a)) (by decide)
  obtain ⟨l2, h2⟩ : ∃ z, gD l1 d a 32 = z := ⟨_, rfl⟩
  have w2 : W64 l2 := h2 ▸ w1.gD d a (.inl rfl)
  have n2 : l2.length = 16 := by rw [← h2, gD_length, n1]
  obtain ⟨l3, h3⟩ : ∃ z, gC l2 c d = z := ⟨_, rfl⟩
  have w3 : W64 l3 := h3 ▸ w2.gC c d
  have n3 : l3.length = 16 := by rw [← h3, gC_length, n2]
  have x3 := xor64_p _ _ (w3.get b) (w3.get c)
  have c3 := refTurn_p _ 24 ((w3.get b).xor (w3.get c)) (by decide)
  obtain ⟨l4, h4⟩ : ∃ z, gD l3 b c 24 = z := ⟨_, rfl⟩
  have w4 : W64 l4 := h4 ▸ w3.gD b c (.inr (.inl rfl))
  have n4 : l4.length = 16 := by rw [← h4, gD_length, n3]
  obtain ⟨l5, h5⟩ : ∃ z, gA l4 a b y = z := ⟨_, rfl⟩
  have w5 : W64 l5 := h5 ▸ w4.gA a b y
  have n5 : l5.length = 16 := by rw [← h5, gA_length, n4]
  have x5 := xor64_p _ _ (w5.get d) (w5.get a)
  have c5 := refTurn_p _ 16 ((w5.get d).xor (w5.get a)) (by decide)
  obtain ⟨l6, h6⟩ : ∃ z, gD l5 d a 16 = z := ⟨_, rfl⟩
  have w6 : W64 l6 := h6 ▸ w5.gD d a (.inr (.inr (.inl rfl)))
  have n6 : l6.length = 16 := by rw [← h6, gD_length, n5]
  obtain ⟨l7, h7⟩ : ∃ z, gC l6 c d = z := ⟨_, rfl⟩
  have w7 : W64 l7 := h7 ▸ w6.gC c d
  have n7 : l7.length = 16 := by rw [← h7, gC_length, n6]
  have x7 := xor64_p _ _ (w7.get b) (w7.get c)
  have c7 := refTurn_p _ 63 ((w7.get b).xor (w7.get c)) (by decide)
  have h8 : gD l7 b c 63 = gmix l a b c d x y := by rw [← h7, ← h6, ← h5, ← h4, ← h3, ← h2, ← h1]; rfl
  have n8 : (gmix l a b c d x y).length = 16 := by rw [gmix_length, hl]
  repeat (first
    | (with_reducible refine lops_step fun K hK => ?_; simp (disch := first | omega | (simp only [go_sem, isRow, isFlat, Option.isSome_some]; done) | assumption | (simp only [ints_length, List.length_replicate, List.length_set, List.length_append, List.length_take, List.length_drop, List.length_cons, List.length_nil] <;> omega) | fail) only [go_sem, Nat.reduceAdd, Nat.reduceSub, reduceIte, Nat.reduceEqDiff, Int.reduceToNat, Int.reduceBEq, Int.reduceBNe, wrap_m, m64_in', eA, eC, eD, h1, h2, h3, h4, h5, h6, h7, h8, x1, x3, x5, x7]; (repeat (with_reducible refine And.intro (by first | omega | rfl | assumption | decide) ?_)); (first | (refine hK _ _ ?_) | (refine ⟨_, rfl, hK _ _ ?_⟩) | (refine Or.inl (hK _ _ ?_)) | (refine ⟨_, _, Or.inl (c1.go _), (by first | exact ⟨[], (List.append_nil _).symm⟩ | exact ⟨_, rfl⟩), hK _ _ ?_⟩) | (refine ⟨_, _, Or.inl (c1.go _), hK _ _ ?_⟩) | (refine ⟨_, _, Or.inl (c1.go _).weakQ, hK _ _ ?_⟩) | (refine ⟨_, _, Or.inl (c3.go _), (by first | exact ⟨[], (List.append_nil _).symm⟩ | exact ⟨_, rfl⟩), hK _ _ ?_⟩) | (refine ⟨_, _, Or.inl (c3.go _), hK _ _ ?_⟩) | (refine ⟨_, _, Or.inl (c3.go _).weakQ, hK _ _ ?_⟩) | (refine ⟨_, _, Or.inl (c5.go _), (by first | exact ⟨[], (List.append_nil _).symm⟩ | exact ⟨_, rfl⟩), hK _ _ ?_⟩) | (refine ⟨_, _, Or.inl (c5.go _), hK _ _ ?_⟩) | (refine ⟨_, _, Or.inl (c5.go _).weakQ, hK _ _ ?_⟩) | (refine ⟨_, _, Or.inl (c7.go _), (by first | exact ⟨[], (List.append_nil _).symm⟩ | exact ⟨_, rfl⟩), hK _ _ ?_⟩) | (refine ⟨_, _, Or.inl (c7.go _), hK _ _ ?_⟩) | (refine ⟨_, _, Or.inl (c7.go _).weakQ, hK _ _ ?_⟩)); clear hK K)
    | (with_reducible refine lops_nil ?_)
    | (with_reducible refine lavc_reg ?_)
    | (with_reducible refine lavc_seq ?_)
    | (with_reducible refine lavc_block ?_)
    | (with_reducible refine lavc_skip ?_)
    | (with_reducible refine lavc_exit ?_)
    | (with_reducible refine lavc_ret ?_)
    | (with_reducible refine lavcR_round ?_)
    | (simp only [↓reduceIte, Nat.reduceEqDiff, reduceCtorEq]))
  refine And.intro (by simp) ?_
  simp (disch := first | omega | (simp only [go_sem, isRow, isFlat, Option.isSome_some]; done) | assumption | (simp only [ints_length, List.length_replicate, List.length_set, List.length_append, List.length_take, List.length_drop, List.length_cons, List.length_nil] <;> omega) | fail) only [go_sem, Nat.reduceAdd, Nat.reduceSub, reduceIte, Nat.reduceEqDiff, Int.reduceToNat, Int.reduceBEq, Int.reduceBNe, aret, aretL, aret1, aenv]
  (repeat (with_reducible refine And.intro (by first | omega | rfl | assumption | decide) ?_))
  exact end0 (NR.agg (NR.ints _ _)) rfl
end Go.Abs.S
