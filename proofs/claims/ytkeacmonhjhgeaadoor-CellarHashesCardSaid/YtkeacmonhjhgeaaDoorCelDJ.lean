/- cellar.draw, in the second view. cellar: five numbers' bytes. cellar: the block that a number means; a step. cellar: the first two blocks of each lane. cellar: the last block of each lane. -/
import Derived.Test.YtkeacmonhjhgeaaDoorDrw
import Derived.Test.YtkeacmonhjhgeaaDoorCelLM
namespace Go.Abs
open Go.Proofs.YtkeacmonhjhgeaaDoor.Back (Sv)
set_option linter.unusedVariables false
set_option linter.unusedSimpArgs false
variable {P : Program} {G : Glob} {σ : Sig} {H : AHeap} {w : World}
theorem noImg_new (r : Rel G σ H w) : ¬ Img σ H w.heap.size ∧ ¬ σ.ro w.heap.size :=
  ⟨fun ⟨b, k, l, h1, h2, h3, e⟩ => by have := r.lt h1 h2 h3; omega, fun h => by have := r.roLt _ h; omega⟩
/-- Worlds that grow behind all that is seen. -/
theorem Res.grown (r : Rel G σ H w) {W : World} (h : Sv w.heap.size w.heap.size w W) {x : AV} {u : Value} (hx : AR σ w x u) (q : Bool) : Res G q σ H w x H u W := by
  have hr : ∀ B, σ.ro B → W.heap[B]? = w.heap[B]? := fun B hB => h.same B (r.roLt B hB) (fun e => by have := r.roLt B hB; omega)
  have hm : ∀ y u, AR σ w y u → AR σ W y u := fun y u hy => hy.mono (fun _ _ _ h => h) (fun _ h => h) hr
  refine ⟨σ, hm _ _ hx, ⟨fun b k l h1 h2 h3 => ?_, r.inj, r.apart, fun B hB => Nat.lt_of_lt_of_le (r.roLt B hB) h.size, r.fresh, fun g => hm _ _ (r.glob g), r.base0⟩,
    ⟨h.os, h.tape, h.output, h.size, fun _ _ _ h => h, fun _ h => h, fun B hB _ => h.same B hB (by omega), fun _ _ _ h => .inl h, fun b k' l h h1 _ => ⟨k', h, h1, rfl⟩, fun _ h => .inl h, Nat.le_refl _⟩, fun _ => ⟨fun B hB => .same (h.same B hB (by omega)), fun _ _ _ h => .inl h⟩⟩
  obtain ⟨C, fr, c1, c2, c3, c4, c5⟩ := r.blk b k l h1 h2 h3
  have hlt := r.lt h1 h2 h3
  refine ⟨C, fr, by rw [h.same l.B hlt (by omega)]; exact c1, c2, c3, c4, fun j hj => ?_⟩
  obtain ⟨u, d1, d2⟩ := c5 j hj
  exact ⟨u, d1, hm _ _ d2⟩
namespace S
open Go.Proofs
open Go.Proofs.YtkeacmonhjhgeaaDoor.Back
/-- The number that a block tells. -/
def drawP (Z : List Int) : Int := bits .andNot .i64 (foldD (upto (back (Z.take 8) 8) 8)) (-9223372036854775808)
set_option maxHeartbeats 2000000 in
theorem draw_p (Z : List Int) (c : Option Nat) (h8 : 8 ≤ Z.length) : PCall Tryd.prog glob 27 [.vsl Z.length (ints .u8 Z) c] (.v (.int .i64 (drawP Z))) := by
  intro H
  refine ⟨⟨_, Tryd.func27, by kernel_rfl, by kernel_rfl⟩, fun σ w us hu ha rel => ?_⟩
  obtain ⟨u0, rfl⟩ : ∃ u, us = #[u] := by
    obtain ⟨l⟩ := us
    match l, hu with
    | [u], _ => exact ⟨u, rfl⟩
  have h0 := ha 0 (by simp)
  simp only [List.getD_cons_zero] at h0
  have e0 : (#[u0] : Array Value).getD 0 undef = u0 := rfl
  rw [e0] at h0
  obtain ⟨n, hn⟩ : ∃ n, Z.length = n := ⟨_, rfl⟩
  obtain ⟨cs, hcs⟩ : ∃ cs, ints .u8 Z = cs := ⟨_, rfl⟩
  rw [hn, hcs] at h0
  cases h0 with
  | vsl B o cap' uu hr hm har hl hx =>
    subst hcs
    rw [ints_length] at hm har
    have hcell : ∀ j, j < 8 → w.cell? ⟨B, o + j, none⟩ = some (.int .u8 ((Z.take 8)[j]?.getD 0)) := fun j hj => by
      rw [hm j (by omega)]
      have := har j (by omega)
      rw [ints_get (by omega), List.getD_eq_getElem?_getD] at this
      rw [List.getElem?_take, if_pos hj]
      generalize uu j = y at this
      cases this
      rfl
    refine (draw_w B o n cap' w (Z.take 8) (by rw [List.length_take]; omega) (by omega) hl (rel.roLt B hr) hcell).mono ?_
    rintro e W ⟨rfl, hsv⟩
    exact ⟨_, rfl, Res.grown rel hsv (.v _) true⟩
  | vsl0 A cap' hx => omega
end S
end Go.Abs
namespace Go.Abs.S
attribute [local go_sem] lguard aopO aop nxL aenv toAV tput aLoad aStore vcells aBin aNilI aUn aAlloc aBox aBuild aBSlice afill aConv isIntT aappZ aCap aArr aMM aMake aSlice bnd3 bnd aFldAddr aFld aIdxAddr aIdx aExt aLen aCopy aEq0 bAV aUb aapp aappQ agh acont List.getD_cons_zero List.getD_cons_succ List.set_cons_zero List.set_cons_succ List.getElem?_cons_zero List.getElem?_cons_succ List.length_cons List.length_nil List.map_cons List.map_nil ints_length if_true if_false Bool.false_eq_true true_and and_true eq_self ne_eq not_false_eq_true not_true_eq_false beq_self_eq_true Nat.zero_add Nat.add_zero Nat.mul_one Nat.zero_mul Int.toNat_natCast List.toList_toArray List.all_cons List.all_nil AV.one Value.oneCell' Bool.and_true Bool.true_and forall_const true_implies false_implies implies_true Option.map_some Option.map_none Option.isSome_some Option.isSome_none imp_self rdP_flat rdP_row splice_one ints_set ints_get List.append_nil List.cons_append List.nil_append List.getElem?_toArray List.drop_zero ints_drop ints_take List.take_of_length_le splice_all ints_one Option.some.injEq Option.getD_some List.length_replicate zArr List.map_replicate rep_ints splice_intsR List.length_set List.length_append List.flatten_replicate_singleton rep_slice rep_string rep_bool rep_iface List.replicate_zero if_pos if_neg List.mapM_cons List.mapM_nil Option.pure_def Option.bind_eq_bind Option.bind_some Bool.true_eq_false Bool.not_false Bool.not_true get_concat set_concat
open Go.Proofs
open Go.Abs.B
set_option linter.unusedVariables false
set_option linter.unusedSimpArgs false
set_option maxRecDepth 100000
set_option maxHeartbeats 4000000
/-- Five numbers' bytes. -/
def five (a b c d e : Int) : List Int := leN 8 a ++ leN 8 b ++ leN 8 c ++ leN 8 d ++ leN 8 e
theorem five_length (a b c d e : Int) : (five a b c d e).length = 40 := by simp [five, leN_length]
theorem five_b8 (a b c d e : Int) : B8 (five a b c d e) := by
  unfold five
  exact (((B8.append (B8.append (B8.append (B8.append (leN_bytes 8 _) (leN_bytes 8 _)) (leN_bytes 8 _)) (leN_bytes 8 _)) (leN_bytes 8 _))))
theorem eights_p (a b c d e : Int) (cx : Option Nat) (h1 : 0 ≤ a ∧ a ≤ 1000) (h2 : 0 ≤ b ∧ b ≤ 1000) (h3 : 0 ≤ c ∧ c ≤ 1000) (h4 : 0 ≤ d ∧ d ≤ 1000) (h5 : 0 ≤ e ∧ e ≤ 1000) :
    PCall Tryd.prog glob 14 [.vsl 5 (ints .i64 [a, b, c, d, e]) cx] (.vsl 40 (ints .u8 (five a b c d e)) none) := by
  refine PCall.of ctx.nr (by (repeat (refine List.forall_mem_cons.2 (And.intro (by first | exact NR.v _ | exact NR.agg (NR.ints _ _) | exact NR.vsl (NR.ints _ _) | exact NR.vptr (NR.ints _ _) | assumption) ?_))); exact fun _ h => absurd h List.not_mem_nil) (NR.vsl (NR.ints _ _)) ?_
  refine lcall14 (by simp) 0 (Nat.le_refl _) ?_
  unfold lc14
  simp only [List.length_cons, List.length_nil, Nat.reduceAdd, Nat.reduceSub, List.replicate_succ, List.replicate_zero, List.cons_append, List.nil_append]
  have ea := eight_p a h1.1 (by omega)
  have eb := eight_p b h2.1 (by omega)
  have ec := eight_p c h3.1 (by omega)
  have ed := eight_p d h4.1 (by omega)
  have ee := eight_p e h5.1 (by omega)
  have i1 : IntKind.i64.wrap (0 + 1) = 1 := by decide
  have i2 : IntKind.i64.wrap (1 + 1) = 2 := by decide
  have i3 : IntKind.i64.wrap (2 + 1) = 3 := by decide
  have i4 : IntKind.i64.wrap (3 + 1) = 4 := by decide
  have i5 : IntKind.i64.wrap (4 + 1) = 5 := by decide
  have n5 : ((5 : Nat) : Int) = 5 := rfl
  have tk : ∀ (l : List Int) (n : Nat), l.length = n → List.take n (ints .u8 l) = ints .u8 l := fun l n h => List.take_of_length_le (by rw [ints_length]; omega)
  have z1 : (leN 8 a).length = 8 := leN_length _ _
  have z2 : (leN 8 a ++ leN 8 b).length = 16 := by simp [leN_length]
  have z3 : (leN 8 a ++ leN 8 b ++ leN 8 c).length = 24 := by simp [leN_length]
  have z4 : (leN 8 a ++ leN 8 b ++ leN 8 c ++ leN 8 d).length = 32 := by simp [leN_length]
  have t1 := tk _ _ z1
  have t2 := tk _ _ z2
  have t3 := tk _ _ z3
  have t4 := tk _ _ z4
  repeat (first
    | (with_reducible refine lops_step fun K hK => ?_; simp (disch := first | omega | (simp only [go_sem, isRow, isFlat, Option.isSome_some]; done) | assumption | (simp only [ints_length, List.length_replicate, List.length_set, List.length_append, List.length_take, List.length_drop, List.length_cons, List.length_nil] <;> omega) | fail) only [go_sem, Nat.reduceAdd, Nat.reduceSub, reduceIte, Nat.reduceEqDiff, Int.reduceToNat, Int.reduceBEq, Int.reduceBNe]; (try (first | (refine And.intro (fun _ => ?_) (fun h => absurd h (by decide))) | (refine And.intro (fun h => absurd h (by decide)) (fun _ => ?_)))); (repeat (with_reducible refine And.intro (by first | omega | rfl | assumption | decide) ?_)); (first | (refine hK _ _ ?_) | (refine ⟨_, rfl, hK _ _ ?_⟩) | (refine Or.inl (hK _ _ ?_))); clear hK K)
    | (with_reducible refine lops_nil ?_)
    | (with_reducible refine lavc_reg ?_)
    | (with_reducible refine lavc_seq ?_)
    | (with_reducible refine lavc_block ?_)
    | (with_reducible refine lavc_skip ?_)
    | (with_reducible refine lavc_exit ?_)
    | (with_reducible refine lavc_ret ?_)
    | (with_reducible refine lavcR_round ?_)
    | (refine lavc_cond rfl (fun _ => ?_) (fun hc => absurd hc (by decide)))
    | (refine lavc_cond rfl (fun hc => absurd hc (by decide)) (fun _ => ?_))
    | (simp only [↓reduceIte, Nat.reduceEqDiff, reduceCtorEq]))
  refine lavc_rounds 6 ?_
  repeat (first
    | (with_reducible refine lops_step fun K hK => ?_; simp (disch := first | omega | (simp only [go_sem, isRow, isFlat, Option.isSome_some]; done) | assumption | (simp only [ints_length, List.length_replicate, List.length_set, List.length_append, List.length_take, List.length_drop, List.length_cons, List.length_nil] <;> omega) | fail) only [go_sem, Nat.reduceAdd, Nat.reduceSub, reduceIte, Nat.reduceEqDiff, Int.reduceToNat, Int.reduceBEq, Int.reduceBNe, leN_length, List.length_append, Nat.reduceAdd, n5, i1, i2, i3, i4, i5, List.getD_cons_zero, List.getD_cons_succ, ints_append, t1, t2, t3, t4]; (try (first | (refine And.intro (fun _ => ?_) (fun h => absurd h (by decide))) | (refine And.intro (fun h => absurd h (by decide)) (fun _ => ?_)))); (repeat (with_reducible refine And.intro (by first | omega | rfl | assumption | decide) ?_)); (first | (refine hK _ _ ?_) | (refine ⟨_, rfl, hK _ _ ?_⟩) | (refine Or.inl (hK _ _ ?_)) | (refine ⟨_, _, Or.inl (ea.go _), (by first | exact ⟨[], (List.append_nil _).symm⟩ | exact ⟨_, rfl⟩), hK _ _ ?_⟩) | (refine ⟨_, _, Or.inl (ea.go _), hK _ _ ?_⟩) | (refine ⟨_, _, Or.inl (ea.go _).weakQ, hK _ _ ?_⟩) | (refine ⟨_, _, Or.inl (eb.go _), (by first | exact ⟨[], (List.append_nil _).symm⟩ | exact ⟨_, rfl⟩), hK _ _ ?_⟩) | (refine ⟨_, _, Or.inl (eb.go _), hK _ _ ?_⟩) | (refine ⟨_, _, Or.inl (eb.go _).weakQ, hK _ _ ?_⟩) | (refine ⟨_, _, Or.inl (ec.go _), (by first | exact ⟨[], (List.append_nil _).symm⟩ | exact ⟨_, rfl⟩), hK _ _ ?_⟩) | (refine ⟨_, _, Or.inl (ec.go _), hK _ _ ?_⟩) | (refine ⟨_, _, Or.inl (ec.go _).weakQ, hK _ _ ?_⟩) | (refine ⟨_, _, Or.inl (ed.go _), (by first | exact ⟨[], (List.append_nil _).symm⟩ | exact ⟨_, rfl⟩), hK _ _ ?_⟩) | (refine ⟨_, _, Or.inl (ed.go _), hK _ _ ?_⟩) | (refine ⟨_, _, Or.inl (ed.go _).weakQ, hK _ _ ?_⟩) | (refine ⟨_, _, Or.inl (ee.go _), (by first | exact ⟨[], (List.append_nil _).symm⟩ | exact ⟨_, rfl⟩), hK _ _ ?_⟩) | (refine ⟨_, _, Or.inl (ee.go _), hK _ _ ?_⟩) | (refine ⟨_, _, Or.inl (ee.go _).weakQ, hK _ _ ?_⟩)); clear hK K)
    | (with_reducible refine lops_nil ?_)
    | (with_reducible refine lavc_reg ?_)
    | (with_reducible refine lavc_seq ?_)
    | (with_reducible refine lavc_block ?_)
    | (with_reducible refine lavc_skip ?_)
    | (with_reducible refine lavc_exit ?_)
    | (with_reducible refine lavc_ret ?_)
    | (with_reducible refine lavcR_round ?_)
    | (refine lavc_cond rfl (fun _ => ?_) (fun hc => absurd hc (by decide)))
    | (refine lavc_cond rfl (fun hc => absurd hc (by decide)) (fun _ => ?_))
    | (simp only [↓reduceIte, Nat.reduceEqDiff, reduceCtorEq]))
  refine And.intro (by simp) ?_
  simp (disch := first | omega | (simp only [go_sem, isRow, isFlat, Option.isSome_some]; done) | assumption | (simp only [ints_length, List.length_replicate, List.length_set, List.length_append, List.length_take, List.length_drop, List.length_cons, List.length_nil] <;> omega) | fail) only [go_sem, Nat.reduceAdd, Nat.reduceSub, reduceIte, Nat.reduceEqDiff, Int.reduceToNat, Int.reduceBEq, Int.reduceBNe, aret, aretL, aret1, aenv]
  (repeat (with_reducible refine And.intro (by first | omega | rfl | assumption | decide) ?_))
  exact endI rfl (five_length a b c d e) (Nat.le_refl _)
open Go.Proofs
open Go.Abs.B
set_option linter.unusedVariables false
set_option linter.unusedSimpArgs false
set_option maxRecDepth 100000
set_option maxHeartbeats 4000000
/-- A block of a lane. -/
abbrev blkC (Z : List Int) : AV := .vsl 64 (ints .u8 Z) none
/-- What a cellar holds. -/
abbrev celB (M Ps L R : Int) (ls : AV) (vc : Nat) : Blk := ⟨[iv M, iv Ps, iv L, iv R, ls], vc, true, 38⟩
theorem other0_a {H : AHeap} {bc vc bL vL Lc bl vl l i idx : Nat} {xL : Bool} {M Ps R : Int} {L Mn : Nat} {LS cs : List AV} {q : Nat} {Z : List Int}
    (hc : H[bc]? = some (celB M Ps L R (.sl bL vL 0 L Lc 1 xL) vc)) (hL : H[bL]? = some ⟨LS, vL, true, 51⟩) (hLl : LS.length = L) (hl : l < L) (hg : LS.getD l .any = .sl bl vl 0 Mn Mn 1 true)
    (hb : H[bl]? = some ⟨cs, vl, true, 22⟩) (hcl : cs.length = Mn) (hMn : Mn ≤ 1000) (hi : 2 ≤ i ∧ i < Mn) (hq : q ≤ 9223372036854775807) (hidx : q / 256 % (i - 1) = idx) (hz : cs.getD idx .any = blkC Z) :
    ACall Tryd.prog glob false 26 [.ptr bc vc 0, iv q, iv 0, iv l, iv i] H (blkC Z) H := by
  refine lcallk26 (by simp) ?_
  unfold lc26
  simp only [List.length_cons, List.length_nil, Nat.reduceAdd, Nat.reduceSub, List.replicate_succ, List.replicate_zero, List.cons_append, List.nil_append]
  have t1 : (q : Int).tdiv 256 = ((q / 256 : Nat) : Int) := tdivN q 256
  have w1 := i64n ((q / 256 : Nat) : Int) (q / 256) rfl (by omega)
  have w2 := i64n ((i : Int) - 1) (i - 1) (by omega) (by omega)
  have t2 : ((q / 256 : Nat) : Int).tmod ((i - 1 : Nat) : Int) = (idx : Int) := by rw [tmodN, hidx]
  have hne : ((i - 1 : Nat) : Int) ≠ 0 := by omega
  have hlt : idx < i - 1 := by rw [← hidx]; exact Nat.mod_lt _ (by omega)
  repeat (first
    | (with_reducible refine lops_step fun K hK => ?_; simp (disch := first | omega | (simp only [go_sem, isRow, isFlat, Option.isSome_some]; done) | assumption | (simp only [ints_length, List.length_replicate, List.length_set, List.length_append, List.length_take, List.length_drop, List.length_cons, List.length_nil] <;> omega) | fail) only [go_sem, Nat.reduceAdd, Nat.reduceSub, reduceIte, Nat.reduceEqDiff, Int.reduceToNat, Int.reduceBEq, Int.reduceBNe, hc, hL, hb, hg, hz, hLl, hcl, t1, t2, w1, w2]; (try (first | (refine And.intro (fun _ => ?_) (fun h => absurd h (by decide))) | (refine And.intro (fun h => absurd h (by decide)) (fun _ => ?_)))); (repeat (with_reducible refine And.intro (by first | omega | rfl | assumption | decide) ?_)); (first | (refine hK _ _ ?_) | (refine ⟨_, rfl, hK _ _ ?_⟩) | (refine Or.inl (hK _ _ ?_))); clear hK K)
    | (with_reducible refine lops_nil ?_)
    | (with_reducible refine lavc_reg ?_)
    | (with_reducible refine lavc_seq ?_)
    | (with_reducible refine lavc_block ?_)
    | (with_reducible refine lavc_skip ?_)
    | (with_reducible refine lavc_exit ?_)
    | (with_reducible refine lavc_ret ?_)
    | (with_reducible refine lavcR_round ?_)
    | (refine lavc_cond rfl (fun _ => ?_) (fun hc => absurd hc (by decide)))
    | (refine lavc_cond rfl (fun hc => absurd hc (by decide)) (fun _ => ?_))
    | (simp only [↓reduceIte, Nat.reduceEqDiff, reduceCtorEq]))
  refine And.intro (by simp) ?_
  simp (disch := first | omega | (simp only [go_sem, isRow, isFlat, Option.isSome_some]; done) | assumption | (simp only [ints_length, List.length_replicate, List.length_set, List.length_append, List.length_take, List.length_drop, List.length_cons, List.length_nil] <;> omega) | fail) only [go_sem, Nat.reduceAdd, Nat.reduceSub, reduceIte, Nat.reduceEqDiff, Int.reduceToNat, Int.reduceBEq, Int.reduceBNe, aret, aretL, aret1, aenv]
  (repeat (with_reducible refine And.intro (by first | omega | rfl | assumption | decide) ?_))
theorem other1_a {H : AHeap} {bc vc bL vL Lc bl vl l idx ps : Nat} {xL : Bool} {Ps R : Int} {L Mn : Nat} {LS cs : List AV} {q : Nat} {Z : List Int}
    (hc : H[bc]? = some (celB Mn Ps L R (.sl bL vL 0 L Lc 1 xL) vc)) (hL : H[bL]? = some ⟨LS, vL, true, 51⟩) (hLl : LS.length = L) (hl : q % L = l) (hL0 : 0 < L) (hg : LS.getD l .any = .sl bl vl 0 Mn Mn 1 true)
    (hb : H[bl]? = some ⟨cs, vl, true, 22⟩) (hcl : cs.length = Mn) (hMn : 0 < Mn ∧ Mn ≤ 1000) (hLb : L ≤ 1000) (hp : 0 < ps) (hq : q ≤ 9223372036854775807) (hidx : q / 256 % Mn = idx) (hz : cs.getD idx .any = blkC Z) (l0 i0 : Int) :
    ACall Tryd.prog glob false 26 [.ptr bc vc 0, iv q, iv ps, iv l0, iv i0] H (blkC Z) H := by
  refine lcallk26 (by simp) ?_
  unfold lc26
  simp only [List.length_cons, List.length_nil, Nat.reduceAdd, Nat.reduceSub, List.replicate_succ, List.replicate_zero, List.cons_append, List.nil_append]
  have t1 : (q : Int).tdiv 256 = ((q / 256 : Nat) : Int) := tdivN q 256
  have w1 := i64n ((q / 256 : Nat) : Int) (q / 256) rfl (by omega)
  have t2 : ((q / 256 : Nat) : Int).tmod ((Mn : Nat) : Int) = (idx : Int) := by rw [tmodN, hidx]
  have t3 : (q : Int).tmod ((L : Nat) : Int) = (l : Int) := by rw [tmodN, hl]
  have hne : ((Mn : Nat) : Int) ≠ 0 := by omega
  have hne2 : ((L : Nat) : Int) ≠ 0 := by omega
  have hlt : idx < Mn := by rw [← hidx]; exact Nat.mod_lt _ (by omega)
  have hll : l < L := by rw [← hl]; exact Nat.mod_lt _ hL0
  have hp0 : (((ps : Int) : Int) == 0) = false := by rw [beq_eq_false_iff_ne, ne_eq]; omega
  repeat (first
    | (with_reducible refine lops_step fun K hK => ?_; simp (disch := first | omega | (simp only [go_sem, isRow, isFlat, Option.isSome_some]; done) | assumption | (simp only [ints_length, List.length_replicate, List.length_set, List.length_append, List.length_take, List.length_drop, List.length_cons, List.length_nil] <;> omega) | fail) only [go_sem, Nat.reduceAdd, Nat.reduceSub, reduceIte, Nat.reduceEqDiff, Int.reduceToNat, Int.reduceBEq, Int.reduceBNe, hp0, hc, hL, hb, hg, hz, hLl, hcl, t1, t2, t3, w1]; (try (first | (refine And.intro (fun _ => ?_) (fun h => absurd h (by decide))) | (refine And.intro (fun h => absurd h (by decide)) (fun _ => ?_)))); (repeat (with_reducible refine And.intro (by first | omega | rfl | assumption | decide) ?_)); (first | (refine hK _ _ ?_) | (refine ⟨_, rfl, hK _ _ ?_⟩) | (refine Or.inl (hK _ _ ?_))); clear hK K)
    | (with_reducible refine lops_nil ?_)
    | (with_reducible refine lavc_reg ?_)
    | (with_reducible refine lavc_seq ?_)
    | (with_reducible refine lavc_block ?_)
    | (with_reducible refine lavc_skip ?_)
    | (with_reducible refine lavc_exit ?_)
    | (with_reducible refine lavc_ret ?_)
    | (with_reducible refine lavcR_round ?_)
    | (refine lavc_cond rfl (fun _ => ?_) (fun hc => absurd hc (by decide)))
    | (refine lavc_cond rfl (fun hc => absurd hc (by decide)) (fun _ => ?_))
    | (simp only [↓reduceIte, Nat.reduceEqDiff, reduceCtorEq]))
  refine And.intro (by simp) ?_
  simp (disch := first | omega | (simp only [go_sem, isRow, isFlat, Option.isSome_some]; done) | assumption | (simp only [ints_length, List.length_replicate, List.length_set, List.length_append, List.length_take, List.length_drop, List.length_cons, List.length_nil] <;> omega) | fail) only [go_sem, Nat.reduceAdd, Nat.reduceSub, reduceIte, Nat.reduceEqDiff, Int.reduceToNat, Int.reduceBEq, Int.reduceBNe, aret, aretL, aret1, aenv]
  (repeat (with_reducible refine And.intro (by first | omega | rfl | assumption | decide) ?_))
theorem NR.blk (Z : List Int) : NR (blkC Z) := NR.vsl (NR.ints _ _)
theorem two_rws (A B : List Int) (hA : A.length = 64) (hB : B.length = 64) : Rws [blkC A, blkC B] [A, B] := Rws.cons hA (Rws.cons hB Rws.nil)
theorem three_rws (A B C : List Int) (hA : A.length = 64) (hB : B.length = 64) (hC : C.length = 64) : Rws [blkC A, blkC B, blkC C] [A, B, C] := Rws.cons hA (Rws.cons hB (Rws.cons hC Rws.nil))
/-- A step of the first pass. -/
theorem step0_a {H : AHeap} {bc vc bL vL Lc bl vl l i idx : Nat} {xL : Bool} {Ps R : Int} {L Mn : Nat} {LS cs : List AV} {q : Nat} {A B : List Int}
    (hc : H[bc]? = some (celB Mn Ps L R (.sl bL vL 0 L Lc 1 xL) vc)) (hL : H[bL]? = some ⟨LS, vL, true, 51⟩) (hLl : LS.length = L) (hl : l < L) (hLb : L ≤ 1000) (hg : LS.getD l .any = .sl bl vl 0 Mn Mn 1 true)
    (hb : H[bl]? = some ⟨cs, vl, true, 22⟩) (hcl : cs.length = Mn) (hMn : Mn ≤ 1000) (hi : 2 ≤ i ∧ i < Mn) (hA : cs.getD (i - 1) .any = blkC A) (hAl : A.length = 64) (hA8 : B8 A) (hq : drawP A = (q : Int)) (hq2 : q ≤ 9223372036854775807)
    (hidx : q / 256 % (i - 1) = idx) (hB : cs.getD idx .any = blkC B) (hBl : B.length = 64) (hB8 : B8 B) :
    ACall Tryd.prog glob false 15 [.ptr bc vc 0, iv 0, iv l, iv i] H (.tup []) (H.set bl ⟨cs.set i (blkC (sumC [A, B])), vl, true, 22⟩) := by
  refine lcallk15 (by simp) ?_
  unfold lc15
  simp only [List.length_cons, List.length_nil, Nat.reduceAdd, Nat.reduceSub, List.replicate_succ, List.replicate_zero, List.cons_append, List.nil_append]
  have ot := other0_a hc hL hLl hl hg hb hcl hMn hi hq2 hidx hB
  have dp := draw_p A none (by omega)
  rw [hq, hAl] at dp
  have sp := fun c => sum_p [blkC A, blkC B] c [A, B] (two_rws A B hAl hBl) (by simp) (fun r hr => by simp at hr; rcases hr with rfl | rfl <;> omega) (fun r hr => by simp at hr; rcases hr with rfl | rfl <;> assumption)
  have w1 := i64n ((i : Int) + (Mn : Int)) (i + Mn) (by omega) (by omega)
  have w2 := i64n (((i + Mn : Nat) : Int) - 1) (i + Mn - 1) (by omega) (by omega)
  have t1 : ((i + Mn - 1 : Nat) : Int).tmod ((Mn : Nat) : Int) = ((i - 1 : Nat) : Int) := by
    rw [tmodN]
    have : (i + Mn - 1) % Mn = i - 1 := by
      rw [show i + Mn - 1 = (i - 1) + Mn from by omega, Nat.add_mod_right]
      exact Nat.mod_eq_of_lt (by omega)
    rw [this]
  have hne : ((Mn : Nat) : Int) ≠ 0 := by omega
  have two : ∀ x y : AV, (((List.replicate 2 (AV.v (Value.slice none 0 0))).set 0 x).set 1 y) = [x, y] := fun _ _ => rfl
  repeat (first
    | (with_reducible refine lops_step fun K hK => ?_; simp (disch := first | omega | (simp only [go_sem, isRow, isFlat, Option.isSome_some]; done) | assumption | (simp only [ints_length, List.length_replicate, List.length_set, List.length_append, List.length_take, List.length_drop, List.length_cons, List.length_nil] <;> omega) | fail) only [go_sem, Nat.reduceAdd, Nat.reduceSub, reduceIte, Nat.reduceEqDiff, Int.reduceToNat, Int.reduceBEq, Int.reduceBNe, hc, hL, hb, hg, hA, hLl, hcl, t1, w1, w2, two]; (try (first | (refine And.intro (fun _ => ?_) (fun h => absurd h (by decide))) | (refine And.intro (fun h => absurd h (by decide)) (fun _ => ?_)))); (repeat (with_reducible refine And.intro (by first | omega | rfl | assumption | decide) ?_)); (first | (refine hK _ _ ?_) | (refine ⟨_, rfl, hK _ _ ?_⟩) | (refine Or.inl (hK _ _ ?_)) | (refine ⟨_, _, Or.inl (dp.go _), (by first | exact ⟨[], (List.append_nil _).symm⟩ | exact ⟨_, rfl⟩), hK _ _ ?_⟩) | (refine ⟨_, _, Or.inl (dp.go _), hK _ _ ?_⟩) | (refine ⟨_, _, Or.inl (dp.go _).weakQ, hK _ _ ?_⟩) | (refine ⟨_, _, Or.inl (ot), (by first | exact ⟨[], (List.append_nil _).symm⟩ | exact ⟨_, rfl⟩), hK _ _ ?_⟩) | (refine ⟨_, _, Or.inl (ot), hK _ _ ?_⟩) | (refine ⟨_, _, Or.inl (ot).weakQ, hK _ _ ?_⟩) | (refine ⟨_, _, Or.inl ((sp _).go _), (by first | exact ⟨[], (List.append_nil _).symm⟩ | exact ⟨_, rfl⟩), hK _ _ ?_⟩) | (refine ⟨_, _, Or.inl ((sp _).go _), hK _ _ ?_⟩) | (refine ⟨_, _, Or.inl ((sp _).go _).weakQ, hK _ _ ?_⟩)); clear hK K)
    | (with_reducible refine lops_nil ?_)
    | (with_reducible refine lavc_reg ?_)
    | (with_reducible refine lavc_seq ?_)
    | (with_reducible refine lavc_block ?_)
    | (with_reducible refine lavc_skip ?_)
    | (with_reducible refine lavc_exit ?_)
    | (with_reducible refine lavc_ret ?_)
    | (with_reducible refine lavcR_round ?_)
    | (refine lavc_cond rfl (fun _ => ?_) (fun hc => absurd hc (by decide)))
    | (refine lavc_cond rfl (fun hc => absurd hc (by decide)) (fun _ => ?_))
    | (simp only [↓reduceIte, Nat.reduceEqDiff, reduceCtorEq]))
  refine And.intro (by simp) ?_
  simp (disch := first | omega | (simp only [go_sem, isRow, isFlat, Option.isSome_some]; done) | assumption | (simp only [ints_length, List.length_replicate, List.length_set, List.length_append, List.length_take, List.length_drop, List.length_cons, List.length_nil] <;> omega) | fail) only [go_sem, Nat.reduceAdd, Nat.reduceSub, reduceIte, Nat.reduceEqDiff, Int.reduceToNat, Int.reduceBEq, Int.reduceBNe, aret, aretL, aret1, aenv]
  (repeat (with_reducible refine And.intro (by first | omega | rfl | assumption | decide) ?_))
/-- A step of a later pass. -/
theorem step1_a {H : AHeap} {bc vc bL vL Lc bl vl bk vk l k i idx ps ia : Nat} {xL : Bool} {Ps R : Int} {L Mn : Nat} {LS cs cs2 : List AV} {q : Nat} {A B C : List Int}
    (hc : H[bc]? = some (celB Mn Ps L R (.sl bL vL 0 L Lc 1 xL) vc)) (hL : H[bL]? = some ⟨LS, vL, true, 51⟩) (hLl : LS.length = L) (hl : l < L) (hLb : L ≤ 1000) (hg : LS.getD l .any = .sl bl vl 0 Mn Mn 1 true)
    (hb : H[bl]? = some ⟨cs, vl, true, 22⟩) (hcl : cs.length = Mn) (hMn : Mn ≤ 1000) (hp : 0 < ps) (hi : i < Mn) (hia : (i + Mn - 1) % Mn = ia) (hA : cs.getD ia .any = blkC A) (hAl : A.length = 64) (hA8 : B8 A) (hq : drawP A = (q : Int)) (hq2 : q ≤ 9223372036854775807)
    (hk : q % L = k) (hg2 : LS.getD k .any = .sl bk vk 0 Mn Mn 1 true) (hb2 : H[bk]? = some ⟨cs2, vk, true, 22⟩) (hcl2 : cs2.length = Mn)
    (hidx : q / 256 % Mn = idx) (hB : cs2.getD idx .any = blkC B) (hBl : B.length = 64) (hB8 : B8 B) (hC : cs.getD i .any = blkC C) (hCl : C.length = 64) (hC8 : B8 C) :
    ACall Tryd.prog glob false 15 [.ptr bc vc 0, iv ps, iv l, iv i] H (.tup []) ((H ++ [Blk.mk [blkC A, blkC B, blkC C] 0 false 22]).set bl (Blk.mk (cs.set i (blkC (sumC [A, B, C]))) vl true 22)) := by
  obtain ⟨S, hS⟩ : ∃ S, S = sumC [A, B, C] := ⟨_, rfl⟩
  rw [← hS]
  refine lcallk15 (by simp) ?_
  unfold lc15
  simp only [List.length_cons, List.length_nil, Nat.reduceAdd, Nat.reduceSub, List.replicate_succ, List.replicate_zero, List.cons_append, List.nil_append]
  have ot := other1_a hc hL hLl hk (by omega) hg2 hb2 hcl2 ⟨by omega, hMn⟩ hLb hp hq2 hidx hB (l : Int) (i : Int)
  have dp := draw_p A none (by omega)
  rw [hq, hAl] at dp
  have sp := fun c => sum_p [blkC A, blkC B, blkC C] c [A, B, C] (three_rws A B C hAl hBl hCl) (by simp) (fun r hr => by simp at hr; rcases hr with rfl | rfl | rfl <;> omega) (fun r hr => by simp at hr; rcases hr with rfl | rfl | rfl <;> assumption)
  rw [← hS] at sp
  have w1 := i64n ((i : Int) + (Mn : Int)) (i + Mn) (by omega) (by omega)
  have w2 := i64n (((i + Mn : Nat) : Int) - 1) (i + Mn - 1) (by omega) (by omega)
  have t1 : ((i + Mn - 1 : Nat) : Int).tmod ((Mn : Nat) : Int) = (ia : Int) := by rw [tmodN, hia]
  have hlt : ia < Mn := by rw [← hia]; exact Nat.mod_lt _ (by omega)
  have hne : ((Mn : Nat) : Int) ≠ 0 := by omega
  have hp0 : decide ((ps : Int) > 0) = true := by rw [decide_eq_true_eq]; omega
  have one : ∀ x : AV, (List.replicate 1 (AV.v (Value.slice none 0 0))).set 0 x = [x] := fun _ => rfl
  have two : ∀ x y : AV, (((List.replicate 2 (AV.v (Value.slice none 0 0))).set 0 x).set 1 y) = [x, y] := fun _ _ => rfl
  have lt1 := (List.getElem?_eq_some_iff.1 hb).1
  have lt2 := (List.getElem?_eq_some_iff.1 hc).1
  have lt3 := (List.getElem?_eq_some_iff.1 hL).1
  have f1 : (bl = H.length) = False := by simp; omega
  have f2 : (bc = H.length) = False := by simp; omega
  have f3 : (bL = H.length) = False := by simp; omega
  have hb' : ∀ x : Blk, (H ++ [x])[bl]? = some ⟨cs, vl, true, 22⟩ := fun x => by rw [List.getElem?_append_left lt1]; exact hb
  repeat (first
    | (with_reducible refine lops_step fun K hK => ?_; simp (disch := first | omega | (simp only [go_sem, isRow, isFlat, Option.isSome_some]; done) | assumption | (simp only [ints_length, List.length_replicate, List.length_set, List.length_append, List.length_take, List.length_drop, List.length_cons, List.length_nil] <;> omega) | fail) only [go_sem, Nat.reduceAdd, Nat.reduceSub, reduceIte, Nat.reduceEqDiff, Int.reduceToNat, Int.reduceBEq, Int.reduceBNe, hp0, hc, hL, hb, hg, hA, hC, hLl, hcl, t1, w1, w2, one, two]; (repeat (with_reducible refine And.intro (by first | omega | rfl | assumption | decide) ?_)); (first | (refine hK _ _ ?_) | (refine ⟨_, rfl, hK _ _ ?_⟩) | (refine Or.inr (hK _ _ ?_)) | (refine Or.inr ⟨rfl, hK _ _ ?_⟩) | (refine ⟨_, _, Or.inl (dp.go _), (by first | exact ⟨[], (List.append_nil _).symm⟩ | exact ⟨_, rfl⟩), hK _ _ ?_⟩) | (refine ⟨_, _, Or.inl (dp.go _), hK _ _ ?_⟩) | (refine ⟨_, _, Or.inl (dp.go _).weakQ, hK _ _ ?_⟩) | (refine ⟨_, _, Or.inl (ot), (by first | exact ⟨[], (List.append_nil _).symm⟩ | exact ⟨_, rfl⟩), hK _ _ ?_⟩) | (refine ⟨_, _, Or.inl (ot), hK _ _ ?_⟩) | (refine ⟨_, _, Or.inl (ot).weakQ, hK _ _ ?_⟩)); clear hK K)
    | (with_reducible refine lops_nil ?_)
    | (with_reducible refine lavc_reg ?_)
    | (with_reducible refine lavc_seq ?_)
    | (with_reducible refine lavc_block ?_)
    | (with_reducible refine lavc_skip ?_)
    | (with_reducible refine lavc_exit ?_)
    | (with_reducible refine lavc_ret ?_)
    | (with_reducible refine lavcR_round ?_)
    | (simp only [↓reduceIte, Nat.reduceEqDiff, reduceCtorEq]))
  refine lavc_cond rfl (fun _ => ?_) (fun hc => by cases hc)
  repeat (first
    | (with_reducible refine lops_step fun K hK => ?_; simp (disch := first | omega | (simp only [go_sem, isRow, isFlat, Option.isSome_some]; done) | assumption | (simp only [ints_length, List.length_replicate, List.length_set, List.length_append, List.length_take, List.length_drop, List.length_cons, List.length_nil] <;> omega) | fail) only [go_sem, Nat.reduceAdd, Nat.reduceSub, reduceIte, Nat.reduceEqDiff, Int.reduceToNat, Int.reduceBEq, Int.reduceBNe, hp0, hc, hL, hb, hg, hA, hC, hLl, hcl, t1, w1, w2, one, two, List.take_of_length_le]; (repeat (with_reducible refine And.intro (by first | omega | rfl | assumption | decide) ?_)); (first | (refine hK _ _ ?_) | (refine ⟨_, rfl, hK _ _ ?_⟩) | (refine Or.inr (hK _ _ ?_)) | (refine Or.inr ⟨rfl, hK _ _ ?_⟩) | (refine ⟨_, _, Or.inl (dp.go _), (by first | exact ⟨[], (List.append_nil _).symm⟩ | exact ⟨_, rfl⟩), hK _ _ ?_⟩) | (refine ⟨_, _, Or.inl (dp.go _), hK _ _ ?_⟩) | (refine ⟨_, _, Or.inl (dp.go _).weakQ, hK _ _ ?_⟩) | (refine ⟨_, _, Or.inl (ot), (by first | exact ⟨[], (List.append_nil _).symm⟩ | exact ⟨_, rfl⟩), hK _ _ ?_⟩) | (refine ⟨_, _, Or.inl (ot), hK _ _ ?_⟩) | (refine ⟨_, _, Or.inl (ot).weakQ, hK _ _ ?_⟩)); clear hK K)
    | (with_reducible refine lops_nil ?_)
    | (with_reducible refine lavc_reg ?_)
    | (with_reducible refine lavc_seq ?_)
    | (with_reducible refine lavc_block ?_)
    | (with_reducible refine lavc_skip ?_)
    | (with_reducible refine lavc_exit ?_)
    | (with_reducible refine lavc_ret ?_)
    | (with_reducible refine lavcR_round ?_)
    | (simp only [↓reduceIte, Nat.reduceEqDiff, reduceCtorEq]))
  have tk3 : List.take 3 [blkC A, blkC B, blkC C] = [blkC A, blkC B, blkC C] := rfl
  refine lops_fz [H.length] ?_
  simp (disch := first | omega | (simp only [go_sem, isRow, isFlat, Option.isSome_some]; done) | assumption | (simp only [ints_length, List.length_replicate, List.length_set, List.length_append, List.length_take, List.length_drop, List.length_cons, List.length_nil] <;> omega) | fail) only [afz, fzV, fzS, fz_ints, List.map_cons, List.map_nil, List.getElem?_cons_zero, List.getElem?_cons_succ, List.set_cons_zero, List.set_cons_succ, ints_length, true_and, and_true, and_self, if_true, if_false, ↓reduceIte, Nat.reduceEqDiff, Nat.reduceLeDiff, Nat.reduceMul, Nat.reduceAdd, Nat.zero_add, Nat.mul_one, Nat.le_refl, List.length_replicate, List.drop_zero, ints_drop, ints_take, List.take_of_length_le, false_and, and_false, reduceCtorEq, Bool.false_eq_true, forall_const, if_pos, if_neg, get_concat, set_concat, f1, f2, f3, tk3]
  (repeat (with_reducible refine And.intro (by first | omega | rfl | assumption | decide) ?_))
  intro K hK
  simp (disch := first | omega | (simp only [go_sem, isRow, isFlat, Option.isSome_some]; done) | assumption | (simp only [ints_length, List.length_replicate, List.length_set, List.length_append, List.length_take, List.length_drop, List.length_cons, List.length_nil] <;> omega) | fail) only [go_sem, Nat.reduceAdd, Nat.reduceSub, reduceIte, Nat.reduceEqDiff, Int.reduceToNat, Int.reduceBEq, Int.reduceBNe, get_concat, set_concat, f1, f2, f3, tk3]
  refine ⟨_, _, Or.inl ((sp _).go _).weakQ, hK _ _ ?_⟩
  clear hK K
  repeat (first
    | (with_reducible refine lops_step fun K hK => ?_; simp (disch := first | omega | (simp only [go_sem, isRow, isFlat, Option.isSome_some]; done) | assumption | (simp only [ints_length, List.length_replicate, List.length_set, List.length_append, List.length_take, List.length_drop, List.length_cons, List.length_nil] <;> omega) | fail) only [go_sem, Nat.reduceAdd, Nat.reduceSub, reduceIte, Nat.reduceEqDiff, Int.reduceToNat, Int.reduceBEq, Int.reduceBNe, hb', hcl]; (repeat (with_reducible refine And.intro (by first | omega | rfl | assumption | decide) ?_)); (first | (refine hK _ _ ?_) | (refine ⟨_, rfl, hK _ _ ?_⟩) | (refine Or.inl (hK _ _ ?_))); clear hK K)
    | (with_reducible refine lops_nil ?_)
    | (with_reducible refine lavc_reg ?_)
    | (with_reducible refine lavc_seq ?_)
    | (with_reducible refine lavc_block ?_)
    | (with_reducible refine lavc_skip ?_)
    | (with_reducible refine lavc_exit ?_)
    | (with_reducible refine lavc_ret ?_)
    | (with_reducible refine lavcR_round ?_)
    | (simp only [↓reduceIte, Nat.reduceEqDiff, reduceCtorEq]))
  refine And.intro (by simp) ?_
  simp (disch := first | omega | (simp only [go_sem, isRow, isFlat, Option.isSome_some]; done) | assumption | (simp only [ints_length, List.length_replicate, List.length_set, List.length_append, List.length_take, List.length_drop, List.length_cons, List.length_nil] <;> omega) | fail) only [go_sem, Nat.reduceAdd, Nat.reduceSub, reduceIte, Nat.reduceEqDiff, Int.reduceToNat, Int.reduceBEq, Int.reduceBNe, aret, aretL, aret1, aenv]
  (repeat (with_reducible refine And.intro (by first | omega | rfl | assumption | decide) ?_))
open Go.Proofs
open Go.Abs.B
set_option linter.unusedVariables false
set_option linter.unusedSimpArgs false
set_option maxRecDepth 100000
set_option maxHeartbeats 4000000
/-- A lane's block i at the beginning. -/
def fst2 (F : List Int) (l i : Int) : List Int := sumC [F, leN 8 l, leN 8 i]
theorem fill_sum (F : List Int) (l i : Int) (cx : Option Nat) (hF : F.length = 64) (h8 : B8 F) :
    PCall Tryd.prog glob 13 [.vsl 3 [blkC F, .vsl 8 (ints .u8 (leN 8 l)) none, .vsl 8 (ints .u8 (leN 8 i)) none] cx] (blkC (fst2 F l i)) := by
  have hr : Rws [blkC F, .vsl 8 (ints .u8 (leN 8 l)) none, .vsl 8 (ints .u8 (leN 8 i)) none] [F, leN 8 l, leN 8 i] := Rws.cons hF (Rws.cons (leN_length _ _) (Rws.cons (leN_length _ _) Rws.nil))
  exact sum_p _ cx [F, leN 8 l, leN 8 i] hr (by simp) (fun r hr => by
    have h := leN_length
    simp at hr
    rcases hr with rfl | rfl | rfl
    · omega
    · rw [h]; omega
    · rw [h]; omega) (fun r hr => by simp at hr; rcases hr with rfl | rfl | rfl; exact h8; exact leN_bytes 8 _; exact leN_bytes 8 _)
/-- A lane whose first two blocks are there. -/
def lane2 (F : List Int) (l : Int) (M : Nat) : List AV := [blkC (fst2 F l 0), blkC (fst2 F l 1)] ++ List.replicate (M - 2) (.v (.slice none 0 0))
theorem nil_flat (M : Nat) : (List.replicate M [AV.v (Value.slice none 0 0)]).flatten = List.replicate M (AV.v (Value.slice none 0 0)) := by
  induction M with
  | zero => rfl
  | succ n ih => rw [List.replicate_succ, List.flatten_cons, ih]; rfl
theorem lane2_eq (F : List Int) (l : Int) (M : Nat) (h : 2 ≤ M) : ((List.replicate M (AV.v (Value.slice none 0 0))).set 0 (blkC (fst2 F l 0))).set 1 (blkC (fst2 F l 1)) = lane2 F l M := by
  obtain ⟨k, rfl⟩ : ∃ k, M = k + 2 := ⟨M - 2, by omega⟩
  rfl
theorem lane2_len (F : List Int) (l : Int) (M : Nat) (h : 2 ≤ M) : (lane2 F l M).length = M := by simp [lane2]; omega
theorem fill1_a (k0 : Blk) (M : Nat) (Ps R : Int) (F : List Int) (hM : 4 ≤ M ∧ M ≤ 64) (hF : F.length = 64) (h8 : B8 F) :
    ACall Tryd.prog glob false 12 [.ptr 1 0 0, blkC F] [k0, celB M Ps 1 R (.v (.slice none 0 0)) 0] (.tup [])
      [k0, celB M Ps 1 R (.sl 3 0 0 1 1 1 false) 0, Blk.mk (lane2 F 0 M) 0 true 22, Blk.mk [.sl 2 0 0 M M 1 true] 0 true 51] := by
  refine lcallk12 (by simp) ?_
  unfold lc12
  simp only [List.length_cons, List.length_nil, Nat.reduceAdd, Nat.reduceSub, List.replicate_succ, List.replicate_zero, List.cons_append, List.nil_append]
  have s0 := fun c => fill_sum F 0 0 c hF h8
  have s1 := fun c => fill_sum F 0 1 c hF h8
  have e0 := eight_p 0 (by decide) (by decide)
  have e1 := eight_p 1 (by decide) (by decide)
  have i1 : IntKind.i64.wrap (0 + 1) = 1 := by decide
  have i2 : IntKind.i64.wrap (1 + 1) = 2 := by decide
  have three : ∀ x y z : AV, ((((List.replicate 3 (AV.v (Value.slice none 0 0))).set 0 x).set 1 y).set 2 z) = [x, y, z] := fun _ _ _ => rfl
  have one : ∀ x : AV, (List.replicate 1 (AV.v (Value.slice none 0 0))).set 0 x = [x] := fun _ => rfl
  repeat (first
    | (with_reducible refine lops_step fun K hK => ?_; simp (disch := first | omega | (simp only [go_sem, isRow, isFlat, Option.isSome_some]; done) | assumption | (simp only [ints_length, List.length_replicate, List.length_set, List.length_append, List.length_take, List.length_drop, List.length_cons, List.length_nil] <;> omega) | fail) only [go_sem, Nat.reduceAdd, Nat.reduceSub, reduceIte, Nat.reduceEqDiff, Int.reduceToNat, Int.reduceBEq, Int.reduceBNe]; (try (first | (refine And.intro (fun _ => ?_) (fun h => absurd h (by decide))) | (refine And.intro (fun h => absurd h (by decide)) (fun _ => ?_)))); (repeat (with_reducible refine And.intro (by first | omega | rfl | assumption | decide) ?_)); (first | (refine hK _ _ ?_) | (refine ⟨_, rfl, hK _ _ ?_⟩) | (refine Or.inl (hK _ _ ?_))); clear hK K)
    | (with_reducible refine lops_nil ?_)
    | (with_reducible refine lavc_reg ?_)
    | (with_reducible refine lavc_seq ?_)
    | (with_reducible refine lavc_block ?_)
    | (with_reducible refine lavc_skip ?_)
    | (with_reducible refine lavc_exit ?_)
    | (with_reducible refine lavc_ret ?_)
    | (with_reducible refine lavcR_round ?_)
    | (refine lavc_cond rfl (fun _ => ?_) (fun hc => absurd hc (by decide)))
    | (refine lavc_cond rfl (fun hc => absurd hc (by decide)) (fun _ => ?_))
    | (simp only [↓reduceIte, Nat.reduceEqDiff, reduceCtorEq]))
  refine lavc_rounds 2 ?_
  have nf := nil_flat M
  have l2 := lane2_eq F 0 M (by omega)
  have hrl : (List.replicate M (AV.v (Value.slice none 0 0))).length = M := by simp
  repeat (first
    | (with_reducible refine lops_step fun K hK => ?_; simp (disch := first | omega | (simp only [go_sem, isRow, isFlat, Option.isSome_some]; done) | assumption | (simp only [ints_length, List.length_replicate, List.length_set, List.length_append, List.length_take, List.length_drop, List.length_cons, List.length_nil] <;> omega) | fail) only [go_sem, Nat.reduceAdd, Nat.reduceSub, reduceIte, Nat.reduceEqDiff, Int.reduceToNat, Int.reduceBEq, Int.reduceBNe, i1, i2, three, one, nf]; (try (first | (refine And.intro (fun _ => ?_) (fun h => absurd h (by decide))) | (refine And.intro (fun h => absurd h (by decide)) (fun _ => ?_)))); (repeat (with_reducible refine And.intro (by first | omega | rfl | assumption | decide) ?_)); (first | (refine hK _ _ ?_) | (refine ⟨_, rfl, hK _ _ ?_⟩) | (refine Or.inl (hK _ _ ?_))); clear hK K)
    | (with_reducible refine lops_nil ?_)
    | (with_reducible refine lavc_reg ?_)
    | (with_reducible refine lavc_seq ?_)
    | (with_reducible refine lavc_block ?_)
    | (with_reducible refine lavc_skip ?_)
    | (with_reducible refine lavc_exit ?_)
    | (with_reducible refine lavc_ret ?_)
    | (with_reducible refine lavcR_round ?_)
    | (refine lavc_cond rfl (fun _ => ?_) (fun hc => absurd hc (by decide)))
    | (refine lavc_cond rfl (fun hc => absurd hc (by decide)) (fun _ => ?_))
    | (simp only [↓reduceIte, Nat.reduceEqDiff, reduceCtorEq]))
  refine lavc_rounds 3 ?_
  repeat (first
    | (with_reducible refine lops_step fun K hK => ?_; simp (disch := first | omega | (simp only [go_sem, isRow, isFlat, Option.isSome_some]; done) | assumption | (simp only [ints_length, List.length_replicate, List.length_set, List.length_append, List.length_take, List.length_drop, List.length_cons, List.length_nil] <;> omega) | fail) only [go_sem, Nat.reduceAdd, Nat.reduceSub, reduceIte, Nat.reduceEqDiff, Int.reduceToNat, Int.reduceBEq, Int.reduceBNe, i1, i2, three, one, hrl, List.length_set, l2, List.nil_append]; (try (first | (refine And.intro (fun _ => ?_) (fun h => absurd h (by decide))) | (refine And.intro (fun h => absurd h (by decide)) (fun _ => ?_)))); (repeat (with_reducible refine And.intro (by first | omega | rfl | assumption | decide) ?_)); (first | (refine hK _ _ ?_) | (refine ⟨_, rfl, hK _ _ ?_⟩) | (refine Or.inl (hK _ _ ?_)) | (refine ⟨_, _, Or.inl (e0.go _), (by first | exact ⟨[], (List.append_nil _).symm⟩ | exact ⟨_, rfl⟩), hK _ _ ?_⟩) | (refine ⟨_, _, Or.inl (e0.go _), hK _ _ ?_⟩) | (refine ⟨_, _, Or.inl (e0.go _).weakQ, hK _ _ ?_⟩) | (refine ⟨_, _, Or.inl (e1.go _), (by first | exact ⟨[], (List.append_nil _).symm⟩ | exact ⟨_, rfl⟩), hK _ _ ?_⟩) | (refine ⟨_, _, Or.inl (e1.go _), hK _ _ ?_⟩) | (refine ⟨_, _, Or.inl (e1.go _).weakQ, hK _ _ ?_⟩) | (refine ⟨_, _, Or.inl ((s0 _).go _), (by first | exact ⟨[], (List.append_nil _).symm⟩ | exact ⟨_, rfl⟩), hK _ _ ?_⟩) | (refine ⟨_, _, Or.inl ((s0 _).go _), hK _ _ ?_⟩) | (refine ⟨_, _, Or.inl ((s0 _).go _).weakQ, hK _ _ ?_⟩) | (refine ⟨_, _, Or.inl ((s1 _).go _), (by first | exact ⟨[], (List.append_nil _).symm⟩ | exact ⟨_, rfl⟩), hK _ _ ?_⟩) | (refine ⟨_, _, Or.inl ((s1 _).go _), hK _ _ ?_⟩) | (refine ⟨_, _, Or.inl ((s1 _).go _).weakQ, hK _ _ ?_⟩)); clear hK K)
    | (with_reducible refine lops_nil ?_)
    | (with_reducible refine lavc_reg ?_)
    | (with_reducible refine lavc_seq ?_)
    | (with_reducible refine lavc_block ?_)
    | (with_reducible refine lavc_skip ?_)
    | (with_reducible refine lavc_exit ?_)
    | (with_reducible refine lavc_ret ?_)
    | (with_reducible refine lavcR_round ?_)
    | (refine lavc_cond rfl (fun _ => ?_) (fun hc => absurd hc (by decide)))
    | (refine lavc_cond rfl (fun hc => absurd hc (by decide)) (fun _ => ?_))
    | (simp only [↓reduceIte, Nat.reduceEqDiff, reduceCtorEq]))
  refine And.intro (by simp) ?_
  simp (disch := first | omega | (simp only [go_sem, isRow, isFlat, Option.isSome_some]; done) | assumption | (simp only [ints_length, List.length_replicate, List.length_set, List.length_append, List.length_take, List.length_drop, List.length_cons, List.length_nil] <;> omega) | fail) only [go_sem, Nat.reduceAdd, Nat.reduceSub, reduceIte, Nat.reduceEqDiff, Int.reduceToNat, Int.reduceBEq, Int.reduceBNe, aret, aretL, aret1, aenv]
  (repeat (with_reducible refine And.intro (by first | omega | rfl | assumption | decide) ?_))
theorem fill2_a (k0 : Blk) (M : Nat) (Ps R : Int) (F : List Int) (hM : 4 ≤ M ∧ M ≤ 64) (hF : F.length = 64) (h8 : B8 F) :
    ACall Tryd.prog glob false 12 [.ptr 1 0 0, blkC F] [k0, celB M Ps 2 R (.v (.slice none 0 0)) 0] (.tup [])
      [k0, celB M Ps 2 R (.sl 3 1 0 2 2 1 false) 0, Blk.mk (lane2 F 0 M) 0 true 22, Blk.mk [.sl 2 0 0 M M 1 true, .sl 4 0 0 M M 1 true] 1 true 51, Blk.mk (lane2 F 1 M) 0 true 22] := by
  refine lcallk12 (by simp) ?_
  unfold lc12
  simp only [List.length_cons, List.length_nil, Nat.reduceAdd, Nat.reduceSub, List.replicate_succ, List.replicate_zero, List.cons_append, List.nil_append]
  have s0 := fun c => fill_sum F 0 0 c hF h8
  have s1 := fun c => fill_sum F 0 1 c hF h8
  have e0 := eight_p 0 (by decide) (by decide)
  have e1 := eight_p 1 (by decide) (by decide)
  have i1 : IntKind.i64.wrap (0 + 1) = 1 := by decide
  have i2 : IntKind.i64.wrap (1 + 1) = 2 := by decide
  have three : ∀ x y z : AV, ((((List.replicate 3 (AV.v (Value.slice none 0 0))).set 0 x).set 1 y).set 2 z) = [x, y, z] := fun _ _ _ => rfl
  have one : ∀ x : AV, (List.replicate 1 (AV.v (Value.slice none 0 0))).set 0 x = [x] := fun _ => rfl
  have s2 := fun c => fill_sum F 1 0 c hF h8
  have s3 := fun c => fill_sum F 1 1 c hF h8
  have nf := nil_flat M
  have l2 := lane2_eq F 0 M (by omega)
  have l3 := lane2_eq F 1 M (by omega)
  have hrl : (List.replicate M (AV.v (Value.slice none 0 0))).length = M := by simp
  repeat (first
    | (with_reducible refine lops_step fun K hK => ?_; simp (disch := first | omega | (simp only [go_sem, isRow, isFlat, Option.isSome_some]; done) | assumption | (simp only [ints_length, List.length_replicate, List.length_set, List.length_append, List.length_take, List.length_drop, List.length_cons, List.length_nil] <;> omega) | fail) only [go_sem, Nat.reduceAdd, Nat.reduceSub, reduceIte, Nat.reduceEqDiff, Int.reduceToNat, Int.reduceBEq, Int.reduceBNe]; (try (first | (refine And.intro (fun _ => ?_) (fun h => absurd h (by decide))) | (refine And.intro (fun h => absurd h (by decide)) (fun _ => ?_)))); (repeat (with_reducible refine And.intro (by first | omega | rfl | assumption | decide) ?_)); (first | (refine hK _ _ ?_) | (refine ⟨_, rfl, hK _ _ ?_⟩) | (refine Or.inl (hK _ _ ?_))); clear hK K)
    | (with_reducible refine lops_nil ?_)
    | (with_reducible refine lavc_reg ?_)
    | (with_reducible refine lavc_seq ?_)
    | (with_reducible refine lavc_block ?_)
    | (with_reducible refine lavc_skip ?_)
    | (with_reducible refine lavc_exit ?_)
    | (with_reducible refine lavc_ret ?_)
    | (with_reducible refine lavcR_round ?_)
    | (refine lavc_cond rfl (fun _ => ?_) (fun hc => absurd hc (by decide)))
    | (refine lavc_cond rfl (fun hc => absurd hc (by decide)) (fun _ => ?_))
    | (simp only [↓reduceIte, Nat.reduceEqDiff, reduceCtorEq]))
  refine lavc_rounds 3 ?_
  repeat (first
    | (with_reducible refine lops_step fun K hK => ?_; simp (disch := first | omega | (simp only [go_sem, isRow, isFlat, Option.isSome_some]; done) | assumption | (simp only [ints_length, List.length_replicate, List.length_set, List.length_append, List.length_take, List.length_drop, List.length_cons, List.length_nil] <;> omega) | fail) only [go_sem, Nat.reduceAdd, Nat.reduceSub, reduceIte, Nat.reduceEqDiff, Int.reduceToNat, Int.reduceBEq, Int.reduceBNe, i1, i2, three, one, nf]; (try (first | (refine And.intro (fun _ => ?_) (fun h => absurd h (by decide))) | (refine And.intro (fun h => absurd h (by decide)) (fun _ => ?_)))); (repeat (with_reducible refine And.intro (by first | omega | rfl | assumption | decide) ?_)); (first | (refine hK _ _ ?_) | (refine ⟨_, rfl, hK _ _ ?_⟩) | (refine Or.inl (hK _ _ ?_))); clear hK K)
    | (with_reducible refine lops_nil ?_)
    | (with_reducible refine lavc_reg ?_)
    | (with_reducible refine lavc_seq ?_)
    | (with_reducible refine lavc_block ?_)
    | (with_reducible refine lavc_skip ?_)
    | (with_reducible refine lavc_exit ?_)
    | (with_reducible refine lavc_ret ?_)
    | (with_reducible refine lavcR_round ?_)
    | (refine lavc_cond rfl (fun _ => ?_) (fun hc => absurd hc (by decide)))
    | (refine lavc_cond rfl (fun hc => absurd hc (by decide)) (fun _ => ?_))
    | (simp only [↓reduceIte, Nat.reduceEqDiff, reduceCtorEq]))
  refine lavc_rounds 3 ?_
  repeat (first
    | (with_reducible refine lops_step fun K hK => ?_; simp (disch := first | omega | (simp only [go_sem, isRow, isFlat, Option.isSome_some]; done) | assumption | (simp only [ints_length, List.length_replicate, List.length_set, List.length_append, List.length_take, List.length_drop, List.length_cons, List.length_nil] <;> omega) | fail) only [go_sem, Nat.reduceAdd, Nat.reduceSub, reduceIte, Nat.reduceEqDiff, Int.reduceToNat, Int.reduceBEq, Int.reduceBNe, i1, i2, three, one, nf, hrl, List.length_set, l2, List.nil_append]; (try (first | (refine And.intro (fun _ => ?_) (fun h => absurd h (by decide))) | (refine And.intro (fun h => absurd h (by decide)) (fun _ => ?_)))); (repeat (with_reducible refine And.intro (by first | omega | rfl | assumption | decide) ?_)); (first | (refine hK _ _ ?_) | (refine ⟨_, rfl, hK _ _ ?_⟩) | (refine Or.inl (hK _ _ ?_)) | (refine ⟨_, _, Or.inl (e0.go _), (by first | exact ⟨[], (List.append_nil _).symm⟩ | exact ⟨_, rfl⟩), hK _ _ ?_⟩) | (refine ⟨_, _, Or.inl (e0.go _), hK _ _ ?_⟩) | (refine ⟨_, _, Or.inl (e0.go _).weakQ, hK _ _ ?_⟩) | (refine ⟨_, _, Or.inl (e1.go _), (by first | exact ⟨[], (List.append_nil _).symm⟩ | exact ⟨_, rfl⟩), hK _ _ ?_⟩) | (refine ⟨_, _, Or.inl (e1.go _), hK _ _ ?_⟩) | (refine ⟨_, _, Or.inl (e1.go _).weakQ, hK _ _ ?_⟩) | (refine ⟨_, _, Or.inl ((s0 _).go _), (by first | exact ⟨[], (List.append_nil _).symm⟩ | exact ⟨_, rfl⟩), hK _ _ ?_⟩) | (refine ⟨_, _, Or.inl ((s0 _).go _), hK _ _ ?_⟩) | (refine ⟨_, _, Or.inl ((s0 _).go _).weakQ, hK _ _ ?_⟩) | (refine ⟨_, _, Or.inl ((s1 _).go _), (by first | exact ⟨[], (List.append_nil _).symm⟩ | exact ⟨_, rfl⟩), hK _ _ ?_⟩) | (refine ⟨_, _, Or.inl ((s1 _).go _), hK _ _ ?_⟩) | (refine ⟨_, _, Or.inl ((s1 _).go _).weakQ, hK _ _ ?_⟩)); clear hK K)
    | (with_reducible refine lops_nil ?_)
    | (with_reducible refine lavc_reg ?_)
    | (with_reducible refine lavc_seq ?_)
    | (with_reducible refine lavc_block ?_)
    | (with_reducible refine lavc_skip ?_)
    | (with_reducible refine lavc_exit ?_)
    | (with_reducible refine lavc_ret ?_)
    | (with_reducible refine lavcR_round ?_)
    | (refine lavc_cond rfl (fun _ => ?_) (fun hc => absurd hc (by decide)))
    | (refine lavc_cond rfl (fun hc => absurd hc (by decide)) (fun _ => ?_))
    | (simp only [↓reduceIte, Nat.reduceEqDiff, reduceCtorEq]))
  refine lavc_rounds 3 ?_
  repeat (first
    | (with_reducible refine lops_step fun K hK => ?_; simp (disch := first | omega | (simp only [go_sem, isRow, isFlat, Option.isSome_some]; done) | assumption | (simp only [ints_length, List.length_replicate, List.length_set, List.length_append, List.length_take, List.length_drop, List.length_cons, List.length_nil] <;> omega) | fail) only [go_sem, Nat.reduceAdd, Nat.reduceSub, reduceIte, Nat.reduceEqDiff, Int.reduceToNat, Int.reduceBEq, Int.reduceBNe, i1, i2, three, one, hrl, List.length_set, l3, List.nil_append]; (try (first | (refine And.intro (fun _ => ?_) (fun h => absurd h (by decide))) | (refine And.intro (fun h => absurd h (by decide)) (fun _ => ?_)))); (repeat (with_reducible refine And.intro (by first | omega | rfl | assumption | decide) ?_)); (first | (refine hK _ _ ?_) | (refine ⟨_, rfl, hK _ _ ?_⟩) | (refine Or.inl (hK _ _ ?_)) | (refine ⟨_, _, Or.inl (e0.go _), (by first | exact ⟨[], (List.append_nil _).symm⟩ | exact ⟨_, rfl⟩), hK _ _ ?_⟩) | (refine ⟨_, _, Or.inl (e0.go _), hK _ _ ?_⟩) | (refine ⟨_, _, Or.inl (e0.go _).weakQ, hK _ _ ?_⟩) | (refine ⟨_, _, Or.inl (e1.go _), (by first | exact ⟨[], (List.append_nil _).symm⟩ | exact ⟨_, rfl⟩), hK _ _ ?_⟩) | (refine ⟨_, _, Or.inl (e1.go _), hK _ _ ?_⟩) | (refine ⟨_, _, Or.inl (e1.go _).weakQ, hK _ _ ?_⟩) | (refine ⟨_, _, Or.inl ((s2 _).go _), (by first | exact ⟨[], (List.append_nil _).symm⟩ | exact ⟨_, rfl⟩), hK _ _ ?_⟩) | (refine ⟨_, _, Or.inl ((s2 _).go _), hK _ _ ?_⟩) | (refine ⟨_, _, Or.inl ((s2 _).go _).weakQ, hK _ _ ?_⟩) | (refine ⟨_, _, Or.inl ((s3 _).go _), (by first | exact ⟨[], (List.append_nil _).symm⟩ | exact ⟨_, rfl⟩), hK _ _ ?_⟩) | (refine ⟨_, _, Or.inl ((s3 _).go _), hK _ _ ?_⟩) | (refine ⟨_, _, Or.inl ((s3 _).go _).weakQ, hK _ _ ?_⟩)); clear hK K)
    | (with_reducible refine lops_nil ?_)
    | (with_reducible refine lavc_reg ?_)
    | (with_reducible refine lavc_seq ?_)
    | (with_reducible refine lavc_block ?_)
    | (with_reducible refine lavc_skip ?_)
    | (with_reducible refine lavc_exit ?_)
    | (with_reducible refine lavc_ret ?_)
    | (with_reducible refine lavcR_round ?_)
    | (refine lavc_cond rfl (fun _ => ?_) (fun hc => absurd hc (by decide)))
    | (refine lavc_cond rfl (fun hc => absurd hc (by decide)) (fun _ => ?_))
    | (simp only [↓reduceIte, Nat.reduceEqDiff, reduceCtorEq]))
  refine And.intro (by simp) ?_
  simp (disch := first | omega | (simp only [go_sem, isRow, isFlat, Option.isSome_some]; done) | assumption | (simp only [ints_length, List.length_replicate, List.length_set, List.length_append, List.length_take, List.length_drop, List.length_cons, List.length_nil] <;> omega) | fail) only [go_sem, Nat.reduceAdd, Nat.reduceSub, reduceIte, Nat.reduceEqDiff, Int.reduceToNat, Int.reduceBEq, Int.reduceBNe, aret, aretL, aret1, aenv]
  (repeat (with_reducible refine And.intro (by first | omega | rfl | assumption | decide) ?_))
open Go.Proofs
open Go.Abs.B
set_option linter.unusedVariables false
set_option linter.unusedSimpArgs false
set_option maxRecDepth 100000
set_option maxHeartbeats 4000000
theorem lasts1_a {H : AHeap} {bc vc bL vL Lc b0 v0 : Nat} {xL : Bool} {M : Nat} {Ps L R : Int} {cs : List AV} {A : List Int}
    (hc : H[bc]? = some (celB M Ps L R (.sl bL vL 0 1 Lc 1 xL) vc)) (hL : H[bL]? = some ⟨[.sl b0 v0 0 M M 1 true], vL, true, 51⟩)
    (hb : H[b0]? = some ⟨cs, v0, true, 22⟩) (hcl : cs.length = M) (hM : 1 ≤ M ∧ M ≤ 1000) (hA : cs.getD (M - 1) .any = blkC A) :
    ACall Tryd.prog glob false 18 [.ptr bc vc 0] H (.sl H.length 0 0 1 1 1 false) (H ++ [Blk.mk [blkC A] 0 true 22]) := by
  refine lcallk18 (by simp) ?_
  unfold lc18
  simp only [List.length_cons, List.length_nil, Nat.reduceAdd, Nat.reduceSub, List.replicate_succ, List.replicate_zero, List.cons_append, List.nil_append]
  have i1 : IntKind.i64.wrap (0 + 1) = 1 := by decide
  have w1 := i64n ((M : Int) - 1) (M - 1) (by omega) (by omega)
  have one : ∀ x : AV, (List.replicate 1 (AV.v (Value.slice none 0 0))).set 0 x = [x] := fun _ => rfl
  repeat (first
    | (with_reducible refine lops_step fun K hK => ?_; simp (disch := first | omega | (simp only [go_sem, isRow, isFlat, Option.isSome_some]; done) | assumption | (simp only [ints_length, List.length_replicate, List.length_set, List.length_append, List.length_take, List.length_drop, List.length_cons, List.length_nil] <;> omega) | fail) only [go_sem, Nat.reduceAdd, Nat.reduceSub, reduceIte, Nat.reduceEqDiff, Int.reduceToNat, Int.reduceBEq, Int.reduceBNe, hc, hL, hb]; (try (first | (refine And.intro (fun _ => ?_) (fun h => absurd h (by decide))) | (refine And.intro (fun h => absurd h (by decide)) (fun _ => ?_)))); (repeat (with_reducible refine And.intro (by first | omega | rfl | assumption | decide) ?_)); (first | (refine hK _ _ ?_) | (refine ⟨_, rfl, hK _ _ ?_⟩) | (refine Or.inl (hK _ _ ?_))); clear hK K)
    | (with_reducible refine lops_nil ?_)
    | (with_reducible refine lavc_reg ?_)
    | (with_reducible refine lavc_seq ?_)
    | (with_reducible refine lavc_block ?_)
    | (with_reducible refine lavc_skip ?_)
    | (with_reducible refine lavc_exit ?_)
    | (with_reducible refine lavc_ret ?_)
    | (with_reducible refine lavcR_round ?_)
    | (refine lavc_cond rfl (fun _ => ?_) (fun hc => absurd hc (by decide)))
    | (refine lavc_cond rfl (fun hc => absurd hc (by decide)) (fun _ => ?_))
    | (simp only [↓reduceIte, Nat.reduceEqDiff, reduceCtorEq]))
  refine lavc_rounds 2 ?_
  repeat (first
    | (with_reducible refine lops_step fun K hK => ?_; simp (disch := first | omega | (simp only [go_sem, isRow, isFlat, Option.isSome_some]; done) | assumption | (simp only [ints_length, List.length_replicate, List.length_set, List.length_append, List.length_take, List.length_drop, List.length_cons, List.length_nil] <;> omega) | fail) only [go_sem, Nat.reduceAdd, Nat.reduceSub, reduceIte, Nat.reduceEqDiff, Int.reduceToNat, Int.reduceBEq, Int.reduceBNe, hc, hL, hb, hcl, hA, i1, w1, one]; (try (first | (refine And.intro (fun _ => ?_) (fun h => absurd h (by decide))) | (refine And.intro (fun h => absurd h (by decide)) (fun _ => ?_)))); (repeat (with_reducible refine And.intro (by first | omega | rfl | assumption | decide) ?_)); (first | (refine hK _ _ ?_) | (refine ⟨_, rfl, hK _ _ ?_⟩) | (refine Or.inl (hK _ _ ?_))); clear hK K)
    | (with_reducible refine lops_nil ?_)
    | (with_reducible refine lavc_reg ?_)
    | (with_reducible refine lavc_seq ?_)
    | (with_reducible refine lavc_block ?_)
    | (with_reducible refine lavc_skip ?_)
    | (with_reducible refine lavc_exit ?_)
    | (with_reducible refine lavc_ret ?_)
    | (with_reducible refine lavcR_round ?_)
    | (refine lavc_cond rfl (fun _ => ?_) (fun hc => absurd hc (by decide)))
    | (refine lavc_cond rfl (fun hc => absurd hc (by decide)) (fun _ => ?_))
    | (simp only [↓reduceIte, Nat.reduceEqDiff, reduceCtorEq]))
  refine And.intro (by simp) ?_
  simp (disch := first | omega | (simp only [go_sem, isRow, isFlat, Option.isSome_some]; done) | assumption | (simp only [ints_length, List.length_replicate, List.length_set, List.length_append, List.length_take, List.length_drop, List.length_cons, List.length_nil] <;> omega) | fail) only [go_sem, Nat.reduceAdd, Nat.reduceSub, reduceIte, Nat.reduceEqDiff, Int.reduceToNat, Int.reduceBEq, Int.reduceBNe, aret, aretL, aret1, aenv]
  (repeat (with_reducible refine And.intro (by first | omega | rfl | assumption | decide) ?_))
theorem lasts2_a {H : AHeap} {bc vc bL vL Lc b0 v0 b1 v1 : Nat} {xL : Bool} {M : Nat} {Ps L R : Int} {cs cs1 : List AV} {A B : List Int}
    (hc : H[bc]? = some (celB M Ps L R (.sl bL vL 0 2 Lc 1 xL) vc)) (hL : H[bL]? = some ⟨[.sl b0 v0 0 M M 1 true, .sl b1 v1 0 M M 1 true], vL, true, 51⟩)
    (hb : H[b0]? = some ⟨cs, v0, true, 22⟩) (hcl : cs.length = M) (hM : 1 ≤ M ∧ M ≤ 1000) (hA : cs.getD (M - 1) .any = blkC A)
    (hb1 : H[b1]? = some ⟨cs1, v1, true, 22⟩) (hcl1 : cs1.length = M) (hB : cs1.getD (M - 1) .any = blkC B) :
    ACall Tryd.prog glob false 18 [.ptr bc vc 0] H (.sl H.length 1 0 2 2 1 false) (H ++ [Blk.mk [blkC A, blkC B] 1 true 22]) := by
  refine lcallk18 (by simp) ?_
  unfold lc18
  simp only [List.length_cons, List.length_nil, Nat.reduceAdd, Nat.reduceSub, List.replicate_succ, List.replicate_zero, List.cons_append, List.nil_append]
  have i1 : IntKind.i64.wrap (0 + 1) = 1 := by decide
  have i2 : IntKind.i64.wrap (1 + 1) = 2 := by decide
  have w1 := i64n ((M : Int) - 1) (M - 1) (by omega) (by omega)
  have one : ∀ x : AV, (List.replicate 1 (AV.v (Value.slice none 0 0))).set 0 x = [x] := fun _ => rfl
  have lt1 := (List.getElem?_eq_some_iff.1 hL).1
  have lt2 := (List.getElem?_eq_some_iff.1 hb1).1
  have hL' : ∀ x : Blk, (H ++ [x])[bL]? = some ⟨[.sl b0 v0 0 M M 1 true, .sl b1 v1 0 M M 1 true], vL, true, 51⟩ := fun x => by rw [List.getElem?_append_left lt1]; exact hL
  have hb1' : ∀ x : Blk, (H ++ [x])[b1]? = some ⟨cs1, v1, true, 22⟩ := fun x => by rw [List.getElem?_append_left lt2]; exact hb1
  repeat (first
    | (with_reducible refine lops_step fun K hK => ?_; simp (disch := first | omega | (simp only [go_sem, isRow, isFlat, Option.isSome_some]; done) | assumption | (simp only [ints_length, List.length_replicate, List.length_set, List.length_append, List.length_take, List.length_drop, List.length_cons, List.length_nil] <;> omega) | fail) only [go_sem, Nat.reduceAdd, Nat.reduceSub, reduceIte, Nat.reduceEqDiff, Int.reduceToNat, Int.reduceBEq, Int.reduceBNe, hc, hL, hb]; (try (first | (refine And.intro (fun _ => ?_) (fun h => absurd h (by decide))) | (refine And.intro (fun h => absurd h (by decide)) (fun _ => ?_)))); (repeat (with_reducible refine And.intro (by first | omega | rfl | assumption | decide) ?_)); (first | (refine hK _ _ ?_) | (refine ⟨_, rfl, hK _ _ ?_⟩) | (refine Or.inl (hK _ _ ?_))); clear hK K)
    | (with_reducible refine lops_nil ?_)
    | (with_reducible refine lavc_reg ?_)
    | (with_reducible refine lavc_seq ?_)
    | (with_reducible refine lavc_block ?_)
    | (with_reducible refine lavc_skip ?_)
    | (with_reducible refine lavc_exit ?_)
    | (with_reducible refine lavc_ret ?_)
    | (with_reducible refine lavcR_round ?_)
    | (refine lavc_cond rfl (fun _ => ?_) (fun hc => absurd hc (by decide)))
    | (refine lavc_cond rfl (fun hc => absurd hc (by decide)) (fun _ => ?_))
    | (simp only [↓reduceIte, Nat.reduceEqDiff, reduceCtorEq]))
  refine lavc_rounds 3 ?_
  repeat (first
    | (with_reducible refine lops_step fun K hK => ?_; simp (disch := first | omega | (simp only [go_sem, isRow, isFlat, Option.isSome_some]; done) | assumption | (simp only [ints_length, List.length_replicate, List.length_set, List.length_append, List.length_take, List.length_drop, List.length_cons, List.length_nil] <;> omega) | fail) only [go_sem, Nat.reduceAdd, Nat.reduceSub, reduceIte, Nat.reduceEqDiff, Int.reduceToNat, Int.reduceBEq, Int.reduceBNe, hc, hL, hb, hcl, hA, hL', hb1', hcl1, hB, i1, i2, w1, one, get_concat, set_concat]; (try (first | (refine And.intro (fun _ => ?_) (fun h => absurd h (by decide))) | (refine And.intro (fun h => absurd h (by decide)) (fun _ => ?_)))); (repeat (with_reducible refine And.intro (by first | omega | rfl | assumption | decide) ?_)); (first | (refine hK _ _ ?_) | (refine ⟨_, rfl, hK _ _ ?_⟩) | (refine Or.inl (hK _ _ ?_))); clear hK K)
    | (with_reducible refine lops_nil ?_)
    | (with_reducible refine lavc_reg ?_)
    | (with_reducible refine lavc_seq ?_)
    | (with_reducible refine lavc_block ?_)
    | (with_reducible refine lavc_skip ?_)
    | (with_reducible refine lavc_exit ?_)
    | (with_reducible refine lavc_ret ?_)
    | (with_reducible refine lavcR_round ?_)
    | (refine lavc_cond rfl (fun _ => ?_) (fun hc => absurd hc (by decide)))
    | (refine lavc_cond rfl (fun hc => absurd hc (by decide)) (fun _ => ?_))
    | (simp only [↓reduceIte, Nat.reduceEqDiff, reduceCtorEq]))
  refine And.intro (by simp) ?_
  simp (disch := first | omega | (simp only [go_sem, isRow, isFlat, Option.isSome_some]; done) | assumption | (simp only [ints_length, List.length_replicate, List.length_set, List.length_append, List.length_take, List.length_drop, List.length_cons, List.length_nil] <;> omega) | fail) only [go_sem, Nat.reduceAdd, Nat.reduceSub, reduceIte, Nat.reduceEqDiff, Int.reduceToNat, Int.reduceBEq, Int.reduceBNe, aret, aretL, aret1, aenv]
  (repeat (with_reducible refine And.intro (by first | omega | rfl | assumption | decide) ?_))
end Go.Abs.S
