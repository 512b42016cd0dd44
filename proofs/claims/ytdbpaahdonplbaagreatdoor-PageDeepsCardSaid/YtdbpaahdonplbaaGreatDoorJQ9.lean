/- Values whose texts the document's walks bear. The document's Right, has; written by gen_refv.py. The document's Good, of any value; written by gen_refv.py. -/
import Derived.Test.YtdbpaahdonplbaaGreatDoorJQ4
import Derived.Test.YtdbpaahdonplbaaGreatDoorJQ8
import Derived.Test.YtdbpaahdonplbaaGreatDoorJQ3
import Derived.Test.YtdbpaahdonplbaaGreatDoorJQ5
namespace Go.Abs.S
set_option linter.unusedVariables false
set_option linter.unusedSimpArgs false
/-- Values whose texts the document's walks bear. -/
def tiny1 : Val → Prop
  | .mk k t ns vs => t.size ≤ 2000000 ∧ ns.length ≤ 1000 ∧ (∀ s ∈ ns, s.size ≤ 2000000) ∧ vs.length ≤ 1000
mutual
def tiny : Val → Prop
  | .mk k t ns vs => tiny1 (.mk k t ns vs) ∧ tinyL vs
def tinyL : List Val → Prop
  | [] => True
  | v :: l => tiny v ∧ tinyL l
end
theorem tinyL_iff : ∀ {l : List Val}, tinyL l ↔ ∀ v ∈ l, tiny v
  | [] => ⟨fun _ _ h => absurd h List.not_mem_nil, fun _ => trivial⟩
  | v :: l => by rw [tinyL, List.forall_mem_cons, tinyL_iff]
theorem tiny.at {k : Int} {t : ByteArray} {ns : List ByteArray} {vs : List Val} (h : tiny (.mk k t ns vs)) : tiny1 (.mk k t ns vs) ∧ ∀ v ∈ vs, tiny v := by
  rw [tiny, tinyL_iff] at h
  exact h
theorem tiny.small : ∀ v : Val, tiny v → small v := Val.ind fun k t ns vs ih h => by
  obtain ⟨⟨h1, h2, h3, h4⟩, h5⟩ := h.at
  rw [Go.Abs.S.small, smallL_iff]
  exact ⟨⟨by omega, h2, fun s hs => by have := h3 s hs; omega, h4⟩, fun v hv => ih v hv (h5 v hv)⟩
end Go.Abs.S
namespace Go.Abs.S
attribute [local go_sem] lguard aopO aop aenv toAV tput aLoad aStore vcells aBin aNilI aUn aAlloc aBox aBuild aBSlice afill aConv isIntT aappZ aCap aArr aMM aMake aSlice bnd3 bnd aFldAddr aFld aIdxAddr aIdx aExt aLen aCopy aEq0 bAV aUb aapp aappQ agh acont List.getD_cons_zero List.getD_cons_succ List.set_cons_zero List.set_cons_succ List.getElem?_cons_zero List.getElem?_cons_succ List.length_cons List.length_nil List.map_cons List.map_nil ints_length if_true if_false Bool.false_eq_true true_and and_true eq_self ne_eq not_false_eq_true not_true_eq_false beq_self_eq_true Nat.zero_add Nat.add_zero Nat.mul_one Nat.zero_mul Int.toNat_natCast List.toList_toArray List.all_cons List.all_nil AV.one Value.oneCell' Bool.and_true Bool.true_and forall_const true_implies false_implies implies_true Option.map_some Option.map_none Option.isSome_some Option.isSome_none imp_self rdP_flat rdP_row splice_one ints_set ints_get List.append_nil List.cons_append List.nil_append List.getElem?_toArray List.drop_zero ints_drop ints_take List.take_of_length_le splice_all ints_one Option.some.injEq Option.getD_some List.length_replicate zArr List.map_replicate rep_ints splice_intsR List.length_set List.length_append List.flatten_replicate_singleton rep_slice rep_string rep_bool rep_iface List.replicate_zero if_pos if_neg List.mapM_cons List.mapM_nil Option.pure_def Option.bind_eq_bind Option.bind_some Bool.true_eq_false Bool.not_false Bool.not_true get_concat set_concat
open Go.Proofs
set_option linter.unusedVariables false
set_option linter.unusedSimpArgs false
set_option maxRecDepth 100000
set_option maxHeartbeats 8000000
theorem right_p (l : List UInt8) (hl : l.length ≤ 9223372036854770000) : PCall Tryz.prog glob 14 [.v (.string (bs l))] (.v (.bool (rightL l))) := by
  refine PCall.of ctx.nr nrs (NR.v _) ?_
  refine lcall14 (by simp) 0 (Nat.le_refl _) ?_
  unfold lc14
  refine I1 tt ⟨?_⟩
  obtain ⟨V, hV⟩ : ∃ V, rightL l = V := ⟨_, rfl⟩
  rw [hV]
  refine G1 F4 tt tt tt tt ⟨?_⟩
  refine lavc_loopM ms14_0 (fun m (k : Nat) => m + k = l.length ∧ rightL (l.drop k) = V) (fun k => [(3, .v (.int .i64 k))]) (fun _ => []) l.length 0 ⟨by omega, by rw [List.drop_zero]; exact hV⟩ ?_ rfl ?_
  · try unfold ms14_0
    refine A1 tt ⟨?_⟩
    rfl
  rintro m k ⟨hk, hi⟩
  try unfold ms14_0
  refine M1 tt ⟨?_⟩
  refine G1 F1 tt tt tt tt ⟨?_⟩
  refine cnd rfl (fun hc => ?_) (fun hc => ?_)
  · have hkl : k < l.length := by omega
    have hne : l.drop k ≠ [] := fun h => by
      have := congrArg List.length h
      rw [List.length_drop, List.length_nil] at this
      omega
    have rp := rune_p l hl k hkl
    have hle := rune_le (l.drop k) hne
    rw [List.length_drop] at hle
    rw [rightL_step _ hne, List.drop_drop] at hi
    obtain ⟨n, hn⟩ : ∃ n, runeL (l.drop k) = n := ⟨_, rfl⟩
    rw [hn] at rp hle hi
    by_cases h0 : n = 0
    · subst h0
      rw [if_pos rfl] at hi
      refine G1 F4 tt (an rp.go tt) tt tt ⟨?_⟩
      refine R1 tt ⟨?_⟩
      exact end0 (NR.v _) (by rw [← hi])
    · rw [if_neg h0] at hi
      have q0 : (((n : Int) : Int) == 0) = false := by rw [beq_eq_false_iff_ne, ne_eq]; omega
      have e3 := i64n ((k : Int) + n) (k + n) (by omega) (by omega)
      refine G1 F4 (an q0 (an e3 tt)) (an rp.go tt) tt tt ⟨?_⟩
      refine ⟨m - n, k + n, by omega, ⟨by omega, hi⟩, ?_, (by first | rfl | trivial)⟩
      try unfold ms14_0
      exact A0 tt
  · have hk2 : k = l.length := by omega
    rw [hk2, List.drop_length] at hi
    refine G1 F4 tt tt tt tt ⟨?_⟩
    refine R1 tt ⟨?_⟩
    exact end0 (NR.v _) (by rw [← hi]; rfl)
theorem rights_p (t : ByteArray) (h : t.size ≤ 9223372036854770000) : PCall Tryz.prog glob 14 [stA t] (.v (.bool (rightL (bl t)))) := right_p (bl t) (by have e : (bl t).length = t.size := Array.length_toList; omega)
end Go.Abs.S
namespace Go.Abs.S
attribute [local go_sem] lguard aopO aop aenv toAV tput aLoad aStore vcells aBin aNilI aUn aAlloc aBox aBuild aBSlice afill aConv isIntT aappZ aCap aArr aMM aMake aSlice bnd3 bnd aFldAddr aFld aIdxAddr aIdx aExt aLen aCopy aEq0 bAV aUb aapp aappQ agh acont List.getD_cons_zero List.getD_cons_succ List.set_cons_zero List.set_cons_succ List.getElem?_cons_zero List.getElem?_cons_succ List.length_cons List.length_nil List.map_cons List.map_nil ints_length if_true if_false Bool.false_eq_true true_and and_true eq_self ne_eq not_false_eq_true not_true_eq_false beq_self_eq_true Nat.zero_add Nat.add_zero Nat.mul_one Nat.zero_mul Int.toNat_natCast List.toList_toArray List.all_cons List.all_nil AV.one Value.oneCell' Bool.and_true Bool.true_and forall_const true_implies false_implies implies_true Option.map_some Option.map_none Option.isSome_some Option.isSome_none imp_self rdP_flat rdP_row splice_one ints_set ints_get List.append_nil List.cons_append List.nil_append List.getElem?_toArray List.drop_zero ints_drop ints_take List.take_of_length_le splice_all ints_one Option.some.injEq Option.getD_some List.length_replicate zArr List.map_replicate rep_ints splice_intsR List.length_set List.length_append List.flatten_replicate_singleton rep_slice rep_string rep_bool rep_iface List.replicate_zero if_pos if_neg List.mapM_cons List.mapM_nil Option.pure_def Option.bind_eq_bind Option.bind_some Bool.true_eq_false Bool.not_false Bool.not_true get_concat set_concat
open Go.Proofs
set_option linter.unusedVariables false
set_option linter.unusedSimpArgs false
set_option maxRecDepth 100000
set_option maxHeartbeats 8000000
/-- What is wrong with a value's form but its names and its text. -/
def badA : Val → Bool
  | .mk k t ns vs =>
    if k = 0 ∨ k = 1 ∨ k = 2 then !(decide (ns.length = 0)) || (!(decide (vs.length = 0)) || !(decide (t.size = 0)))
    else if k = 3 ∨ k = 4 then !(decide (ns.length = 0)) || !(decide (vs.length = 0))
    else if k = 5 then !(decide (ns.length = 0)) || !(decide (t.size = 0))
    else if k = 6 then !(decide (t.size = 0)) || !(decide (ns.length = vs.length))
    else true
def badT : Val → Bool
  | .mk k t ns vs =>
    if k = 3 then decide (t.size = 0) || (!(decide (t.size ≤ 40)) || !(decide (nuL (bl t) = t.size)))
    else if k = 4 then !(rightL (bl t))
    else false
def badV (v : Val) : Bool := badA v || badT v
theorem valid_bl (t : ByteArray) : validP t = rightL (bl t) := by
  have h := valid_right (bl t)
  rwa [show bs (bl t) = t from bs_bl t] at h
theorem bad_form (v : Val) : formV v = !(badV v || (match v with | .mk _ _ ns _ => ns.any fun s => !(rightL (bl s)))) := by
  obtain ⟨k, t, ns, vs⟩ := v
  have hv : ∀ s, validP s = rightL (bl s) := valid_bl
  have hn : ns.length = 0 → (ns.any fun s => !(rightL (bl s))) = false := fun h => by
    rw [List.eq_nil_of_length_eq_zero h]
    rfl
  have ha : ns.all validP = !(ns.any fun s => !(rightL (bl s))) := by
    rw [List.not_any_eq_all_not]
    congr 1
    funext s
    rw [Bool.not_not, hv]
  unfold badV
  rw [formV, badA, badT]
  try simp only
  obtain ⟨w, hw⟩ : ∃ w, (ns.any fun s => !(rightL (bl s))) = w := ⟨_, rfl⟩
  rw [hw] at hn ha ⊢
  rw [ha, hv]
  by_cases c1 : k = 0 ∨ k = 1 ∨ k = 2
  · rw [if_pos c1, if_pos c1, if_neg (by omega), if_neg (by omega)]
    by_cases h0 : ns.length = 0
    · rw [hn h0, decide_eq_true h0]
      cases decide (t.size = 0) <;> cases decide (vs.length = 0) <;> rfl
    · rw [decide_eq_false h0]
      cases decide (t.size = 0) <;> cases decide (vs.length = 0) <;> rfl
  rw [if_neg c1, if_neg c1]
  by_cases c3 : k = 3
  · rw [if_pos c3, if_pos (.inl c3), if_pos c3]
    by_cases h0 : ns.length = 0
    · rw [hn h0, decide_eq_true h0]
      cases decide (t.size = 0) <;> cases decide (vs.length = 0) <;> cases decide (t.size ≤ 40) <;> cases decide (nuL (bl t) = t.size) <;> rfl
    · rw [decide_eq_false h0]
      rfl
  rw [if_neg c3, if_neg c3]
  by_cases c4 : k = 4
  · rw [if_pos c4, if_pos (.inr c4), if_pos c4]
    by_cases h0 : ns.length = 0
    · rw [hn h0, decide_eq_true h0]
      cases rightL (bl t) <;> cases decide (vs.length = 0) <;> rfl
    · rw [decide_eq_false h0]
      rfl
  rw [if_neg c4, if_neg (show ¬ (k = 3 ∨ k = 4) by omega), if_neg c4]
  by_cases c5 : k = 5
  · rw [if_pos c5, if_pos c5]
    by_cases h0 : ns.length = 0
    · rw [hn h0, decide_eq_true h0]
      cases decide (t.size = 0) <;> rfl
    · rw [decide_eq_false h0]
      cases decide (t.size = 0) <;> rfl
  rw [if_neg c5, if_neg c5]
  by_cases c6 : k = 6
  · rw [if_pos c6, if_pos c6]
    cases decide (t.size = 0) <;> cases decide (ns.length = vs.length) <;> cases w <;> rfl
  rw [if_neg c6, if_neg c6]
  rfl
theorem any_step {α : Type} (p : α → Bool) (d : α) (l : List α) (k : Nat) (h : k < l.length) : (l.take (k + 1)).any p = ((l.take k).any p || p (l.getD k d)) := by
  rw [List.take_add_one, List.any_append, List.getD_eq_getElem?_getD, List.getElem?_eq_getElem h]
  simp
theorem gt0 (n : Nat) : decide (((n : Nat) : Int) > 0) = !(decide (n = 0)) := by
  rw [Bool.eq_iff_iff, Bool.not_eq_true', decide_eq_true_eq, decide_eq_false_iff_not]
  omega
theorem ne0 (t : ByteArray) : (t.toList != (⟨#[]⟩ : ByteArray).toList) = !(decide (t.size = 0)) := by
  rw [bne, size0]
theorem gt40 (n : Nat) : decide (((n : Nat) : Int) > 40) = !(decide (n ≤ 40)) := by
  rw [Bool.eq_iff_iff, Bool.not_eq_true', decide_eq_true_eq, decide_eq_false_iff_not]
  omega
theorem nen (n m : Nat) : (((n : Nat) : Int) != ((m : Nat) : Int)) = !(decide (n = m)) := by
  rw [bne, intq]
theorem has_p (l : List ByteArray) (c : Option Nat) (x : ByteArray) (hl : l.length ≤ 1000) : PCall Tryz.prog glob 15 [.vsl l.length (strs l) c, stA x] (.v (.bool (decide (0 ≤ idxK l x 0)))) := by
  refine PCall.of ctx.nr (List.forall_mem_cons.2 ⟨NR.vsl (NR.strs _), List.forall_mem_cons.2 ⟨NR.v _, fun _ h => absurd h List.not_mem_nil⟩⟩) (NR.v _) ?_
  refine lcall15 (by simp) 0 (Nat.le_refl _) ?_
  unfold lc15
  refine I1 tt ⟨?_⟩
  have hs := strs_length l
  obtain ⟨V, hV⟩ : ∃ V, idxK l x 0 = V := ⟨_, rfl⟩
  rw [hV]
  refine G1 F4 tt tt tt tt ⟨?_⟩
  refine lavc_loopM ms15_0 (fun m (k : Nat) => m + k = l.length ∧ idxK (l.drop k) x k = V) (fun k => [(8, ivC k)]) (fun _ => []) l.length 0 ⟨by omega, by rw [List.drop_zero]; exact hV⟩ ?_ rfl ?_
  · try unfold ms15_0
    refine A1 tt ⟨?_⟩
    rfl
  rintro m k ⟨hk, hi⟩
  try unfold ms15_0
  refine M1 tt ⟨?_⟩
  refine G1 F1 tt tt tt tt ⟨?_⟩
  refine cnd rfl (fun hc => ?_) (fun hc => ?_)
  · have hkl : k < l.length := by omega
    have hat := strs_at l k hkl
    rw [idxK_step l x k hkl] at hi
    have e3 := i64n ((k : Int) + 1) (k + 1) (by omega) (by omega)
    obtain ⟨y, hy⟩ : ∃ y, l.getD k ⟨#[]⟩ = y := ⟨_, rfl⟩
    rw [hy] at hat hi
    by_cases hx : x = y
    · rw [if_pos hx] at hi
      have q : (y.toList == x.toList) = true := by rw [stA_beq]; exact decide_eq_true hx.symm
      refine G1 F4 (an hat (an q tt)) tt tt tt ⟨?_⟩
      refine R1 tt ⟨?_⟩
      exact end0 (NR.v _) (by rw [← hi, decide_eq_true (by omega)])
    · rw [if_neg hx] at hi
      have q : (y.toList == x.toList) = false := by rw [stA_beq]; exact decide_eq_false (fun h => hx h.symm)
      refine G1 F4 (an hat (an q (an e3 tt))) tt tt tt ⟨?_⟩
      refine ⟨m - 1, k + 1, by omega, ⟨by omega, hi⟩, ?_, (by first | rfl | trivial)⟩
      try unfold ms15_0
      exact A0 tt
  · have hk2 : k = l.length := by omega
    rw [hk2, List.drop_length] at hi
    refine G1 F4 tt tt tt tt ⟨?_⟩
    refine R1 tt ⟨?_⟩
    exact end0 (NR.v _) (by rw [← hi]; rfl)
def mjA : List Nat := [5, 12, 13, 14, 15, 16, 17, 18, 19, 20, 21, 22, 23, 24, 25, 26, 27, 28, 29, 30, 31, 32, 33, 34, 35, 36, 37, 38, 39, 40, 41, 42, 43, 44, 45, 46, 47, 48, 49, 50, 51, 52, 53, 54, 55, 56, 57, 58, 59, 60, 61, 62, 63, 64, 65, 66, 67, 68, 69, 70]
def mjB : List Nat := [5, 71, 72, 73, 74, 75, 76, 77, 78, 79, 80, 81, 82, 83, 84, 85, 86, 87, 88, 89, 90, 91, 92, 93, 94, 95, 96, 97, 98, 99, 100, 101, 102, 103, 104, 105, 106]
theorem rgood_v : ∀ v : Val, tiny v → ∀ d : Int, 1 ≤ d → d ≤ 9 → PCall Tryz.prog glob 7 [vA v, ivC d] (ivC (goodV v d)) := Val.ind fun k t ns vs ih hsm d hd1 hd9 => by
  obtain ⟨h1, hall⟩ := hsm.at
  have bf := bad_form (.mk k t ns vs)
  obtain ⟨ht, hn, hz, hv⟩ := h1
  have hlx := cellsL_length vs
  have hnx := strs_length ns
  refine PCall.of ctx.nr (List.forall_mem_cons.2 ⟨NR.vA _, List.forall_mem_cons.2 ⟨NR.v _, fun _ h => absurd h List.not_mem_nil⟩⟩) (NR.v _) ?_
  refine lcall7 (by simp) 0 (Nat.le_refl _) ?_
  rw [goodV]
  unfold vA
  rw [Val.cells]
  unfold lc7
  refine I1 tt ⟨?_⟩
  by_cases h8 : 8 < d
  · rw [if_pos h8]
    have e8 : decide (d > 8) = true := by rw [decide_eq_true_eq]; omega
    refine G1 F4 (an e8 tt) tt tt tt ⟨?_⟩
    refine R1 tt ⟨?_⟩
    exact end0 (NR.v _) rfl
  rw [if_neg h8]
  have e8 : decide (d > 8) = false := by rw [decide_eq_false_iff_not]; omega
  refine G1 F1 tt tt tt tt ⟨?_⟩
  refine lavc_cond rfl (fun hc => absurd (of_decide_eq_true hc) h8) (fun _ => lavc_skip ?_)
  refine lavc_joinS mjA (fun (x : Bool) => x = badA (.mk k t ns vs)) (fun x => [(5, .v (.bool x))]) (fun _ => [Blk.mk [ivC k, stA t, .vsl ns.length (strs ns) none, .vsl vs.length (cellsL vs) none] 0 true 32]) ?_ ?_
  · clear ih hall bf
    obtain ⟨bt, hbt⟩ : ∃ b, decide (t.size = 0) = b := ⟨_, rfl⟩
    obtain ⟨bn, hbn⟩ : ∃ b, decide (ns.length = 0) = b := ⟨_, rfl⟩
    obtain ⟨bv, hbv⟩ : ∃ b, decide (vs.length = 0) = b := ⟨_, rfl⟩
    have fzt := ne0 t
    have fze := size0 t
    have fzd : decide (t.toList = (⟨#[]⟩ : ByteArray).toList) = decide (t.size = 0) := by rw [← fze]; exact (bs_same _ _).symm
    have fzn := gt0 ns.length
    have fzv := gt0 vs.length
    rw [hbt] at fzt fze fzd
    rw [hbn] at fzn
    rw [hbv] at fzv
    by_cases c1 : k = 0 ∨ k = 1 ∨ k = 2
    · have hB : badA (.mk k t ns vs) = (!bn || (!bv || !bt)) := by
        rw [badA, if_pos c1, hbt, hbn, hbv]
      have fk0 : decide (k < 0) = false := by rw [decide_eq_false_iff_not]; omega
      have fk6 : decide (k > 6) = false := by rw [decide_eq_false_iff_not]; omega
      have fn6 : ((k : Int) != 6) = true := by rw [bne_iff_ne, ne_eq]; omega
      have fl5 : decide (k < 5) = true := by rw [decide_eq_true_eq]; omega
      have fn3 : ((k : Int) != 3) = true := by rw [bne_iff_ne, ne_eq]; omega
      have fn4 : ((k : Int) != 4) = true := by rw [bne_iff_ne, ne_eq]; omega
      have fq6 : ((k : Int) == 6) = false := by rw [beq_eq_false_iff_ne, ne_eq]; omega
      cases bn
      · simp only [Bool.not_false] at fzn
        refine G1 F4 (an fk0 (an fk6 (an fn6 (an fl5 (an fn3 (an fn4 (an fq6 (an fzn tt)))))))) tt tt tt ⟨?_⟩
        refine ⟨_, hB.symm, ?_, (by first | rfl | trivial)⟩
        refine ALe.mk ?_
        simp only [mjA, putAll, blank, List.foldl_cons, List.foldl_nil, List.set_cons_succ, List.set_cons_zero, List.cons_append, List.nil_append, ALe0, true_or, or_true, and_true, true_and, eq_self, reduceCtorEq, false_or]
        try rfl
      cases bv
      · simp only [Bool.not_true, Bool.not_false] at fzn fzv
        refine G1 F4 (an fk0 (an fk6 (an fn6 (an fl5 (an fn3 (an fn4 (an fq6 (an fzn (an fzv tt))))))))) tt tt tt ⟨?_⟩
        refine ⟨_, hB.symm, ?_, (by first | rfl | trivial)⟩
        refine ALe.mk ?_
        simp only [mjA, putAll, blank, List.foldl_cons, List.foldl_nil, List.set_cons_succ, List.set_cons_zero, List.cons_append, List.nil_append, ALe0, true_or, or_true, and_true, true_and, eq_self, reduceCtorEq, false_or]
        try rfl
      cases bt
      all_goals
        simp only [Bool.not_true, Bool.not_false] at fzt fzn fzv
        refine G1 F4 (an fk0 (an fk6 (an fn6 (an fl5 (an fn3 (an fn4 (an fq6 (an fzn (an fzv (an fzt (an fze (an fzd tt)))))))))))) tt tt tt ⟨?_⟩
        refine ⟨_, hB.symm, ?_, (by first | rfl | trivial)⟩
        refine ALe.mk ?_
        simp only [mjA, putAll, blank, List.foldl_cons, List.foldl_nil, List.set_cons_succ, List.set_cons_zero, List.cons_append, List.nil_append, ALe0, true_or, or_true, and_true, true_and, eq_self, reduceCtorEq, false_or]
        try rfl
    by_cases c34 : k = 3 ∨ k = 4
    · have hB : badA (.mk k t ns vs) = (!bn || !bv) := by
        rw [badA, if_neg c1, if_pos c34, hbn, hbv]
      have gk0 : decide (k < 0) = false := by rw [decide_eq_false_iff_not]; omega
      have gk6 : decide (k > 6) = false := by rw [decide_eq_false_iff_not]; omega
      have gk5 : decide (k < 5) = true := by rw [decide_eq_true_eq]; omega
      rcases c34 with c34 | c34
      all_goals
        subst c34
        cases bn
        · simp only [Bool.not_false] at fzn
          refine G1 F4 (an gk0 (an gk6 (an gk5 (an fzn tt)))) tt tt tt ⟨?_⟩
          refine ⟨_, hB.symm, ?_, (by first | rfl | trivial)⟩
          refine ALe.mk ?_
          simp only [mjA, putAll, blank, List.foldl_cons, List.foldl_nil, List.set_cons_succ, List.set_cons_zero, List.cons_append, List.nil_append, ALe0, true_or, or_true, and_true, true_and, eq_self, reduceCtorEq, false_or]
          try rfl
        cases bv
        all_goals
          simp only [Bool.not_true, Bool.not_false] at fzn fzv
          refine G1 F4 (an gk0 (an gk6 (an gk5 (an fzn (an fzv tt))))) tt tt tt ⟨?_⟩
          refine ⟨_, hB.symm, ?_, (by first | rfl | trivial)⟩
          refine ALe.mk ?_
          simp only [mjA, putAll, blank, List.foldl_cons, List.foldl_nil, List.set_cons_succ, List.set_cons_zero, List.cons_append, List.nil_append, ALe0, true_or, or_true, and_true, true_and, eq_self, reduceCtorEq, false_or]
          try rfl
    by_cases c5 : k = 5
    · subst c5
      have gk0 : decide ((5 : Int) < 0) = false := by rw [decide_eq_false_iff_not]; omega
      have gk6 : decide ((5 : Int) > 6) = false := by rw [decide_eq_false_iff_not]; omega
      have gk5 : decide ((5 : Int) < 5) = false := by rw [decide_eq_false_iff_not]; omega
      have hB : badA (.mk 5 t ns vs) = (!bn || !bt) := by
        rw [badA, if_neg (by decide), if_neg (by decide), if_pos rfl, hbn, hbt]
      cases bn
      · simp only [Bool.not_false] at fzn
        refine G1 F4 (an gk0 (an gk6 (an gk5 (an fzn tt)))) tt tt tt ⟨?_⟩
        refine ⟨_, hB.symm, ?_, (by first | rfl | trivial)⟩
        refine ALe.mk ?_
        simp only [mjA, putAll, blank, List.foldl_cons, List.foldl_nil, List.set_cons_succ, List.set_cons_zero, List.cons_append, List.nil_append, ALe0, true_or, or_true, and_true, true_and, eq_self, reduceCtorEq, false_or]
        try rfl
      cases bt
      all_goals
        simp only [Bool.not_true, Bool.not_false] at fzn fzt
        refine G1 F4 (an gk0 (an gk6 (an gk5 (an fzn (an fzt (an fze (an fzd tt))))))) tt tt tt ⟨?_⟩
        refine ⟨_, hB.symm, ?_, (by first | rfl | trivial)⟩
        refine ALe.mk ?_
        simp only [mjA, putAll, blank, List.foldl_cons, List.foldl_nil, List.set_cons_succ, List.set_cons_zero, List.cons_append, List.nil_append, ALe0, true_or, or_true, and_true, true_and, eq_self, reduceCtorEq, false_or]
        try rfl
    by_cases c6 : k = 6
    · subst c6
      have gk0 : decide ((6 : Int) < 0) = false := by rw [decide_eq_false_iff_not]; omega
      have gk6 : decide ((6 : Int) > 6) = false := by rw [decide_eq_false_iff_not]; omega
      have gk5 : decide ((6 : Int) < 5) = false := by rw [decide_eq_false_iff_not]; omega
      obtain ⟨bm, hm⟩ : ∃ b, decide (ns.length = vs.length) = b := ⟨_, rfl⟩
      have fzm := nen ns.length vs.length
      rw [hm] at fzm
      have hB : badA (.mk 6 t ns vs) = (!bt || !bm) := by
        rw [badA, if_neg (by decide), if_neg (by decide), if_neg (by decide), if_pos rfl, hbt, hm]
      cases bt
      · simp only [Bool.not_false] at fzt
        refine G1 F4 (an gk0 (an gk6 (an gk5 (an fzt (an fze (an fzd tt)))))) tt tt tt ⟨?_⟩
        refine ⟨_, hB.symm, ?_, (by first | rfl | trivial)⟩
        refine ALe.mk ?_
        simp only [mjA, putAll, blank, List.foldl_cons, List.foldl_nil, List.set_cons_succ, List.set_cons_zero, List.cons_append, List.nil_append, ALe0, true_or, or_true, and_true, true_and, eq_self, reduceCtorEq, false_or]
        try rfl
      cases bm
      all_goals
        simp only [Bool.not_true, Bool.not_false] at fzm fzt
        refine G1 F4 (an gk0 (an gk6 (an gk5 (an fzm (an fzt (an fze (an fzd tt))))))) tt tt tt ⟨?_⟩
        refine ⟨_, hB.symm, ?_, (by first | rfl | trivial)⟩
        refine ALe.mk ?_
        simp only [mjA, putAll, blank, List.foldl_cons, List.foldl_nil, List.set_cons_succ, List.set_cons_zero, List.cons_append, List.nil_append, ALe0, true_or, or_true, and_true, true_and, eq_self, reduceCtorEq, false_or]
        try rfl
    have hB : badA (.mk k t ns vs) = true := by
      rw [badA, if_neg c1, if_neg c34, if_neg c5, if_neg c6]
    by_cases c0 : k < 0
    · have fk0 : decide (k < 0) = true := by rw [decide_eq_true_eq]; omega
      refine G1 F4 (an fk0 tt) tt tt tt ⟨?_⟩
      refine ⟨_, hB.symm, ?_, (by first | rfl | trivial)⟩
      refine ALe.mk ?_
      simp only [mjA, putAll, blank, List.foldl_cons, List.foldl_nil, List.set_cons_succ, List.set_cons_zero, List.cons_append, List.nil_append, ALe0, true_or, or_true, and_true, true_and, eq_self, reduceCtorEq, false_or]
      try rfl
    · have fk0 : decide (k < 0) = false := by rw [decide_eq_false_iff_not]; omega
      have fk6 : decide (k > 6) = true := by rw [decide_eq_true_eq]; omega
      refine G1 F4 (an fk0 (an fk6 tt)) tt tt tt ⟨?_⟩
      refine ⟨_, hB.symm, ?_, (by first | rfl | trivial)⟩
      refine ALe.mk ?_
      simp only [mjA, putAll, blank, List.foldl_cons, List.foldl_nil, List.set_cons_succ, List.set_cons_zero, List.cons_append, List.nil_append, ALe0, true_or, or_true, and_true, true_and, eq_self, reduceCtorEq, false_or]
      try rfl
  intro z hz
  simp only [mjA, putAll, blank, List.foldl_cons, List.foldl_nil, List.set_cons_succ, List.set_cons_zero, List.cons_append, List.nil_append]
  refine lavc_joinS mjB (fun (x : Bool) => x = (z || badT (.mk k t ns vs))) (fun x => [(5, .v (.bool x))]) (fun _ => [Blk.mk [ivC k, stA t, .vsl ns.length (strs ns) none, .vsl vs.length (cellsL vs) none] 0 true 32]) ?_ ?_
  · clear ih hall bf
    obtain ⟨bt, hbt⟩ : ∃ b, decide (t.size = 0) = b := ⟨_, rfl⟩
    have fzt := ne0 t
    have fze := size0 t
    have fzd : decide (t.toList = (⟨#[]⟩ : ByteArray).toList) = decide (t.size = 0) := by rw [← fze]; exact (bs_same _ _).symm
    rw [hbt] at fzt fze fzd
    by_cases c3 : k = 3
    · subst c3
      obtain ⟨b40, h40⟩ : ∃ b, decide (t.size ≤ 40) = b := ⟨_, rfl⟩
      obtain ⟨bq, hq⟩ : ∃ b, decide (nuL (bl t) = t.size) = b := ⟨_, rfl⟩
      have hB : badT (.mk 3 t ns vs) = (bt || (!b40 || !bq)) := by
        rw [badT, if_pos rfl, hbt, h40, hq]
      have fz40 := gt40 t.size
      have fzq := nen (nuL (bl t)) t.size
      rw [h40] at fz40
      rw [hq] at fzq
      cases bt with
      | true =>
        have hC : (z || badT (.mk 3 t ns vs)) = true := by rw [hB]; cases z <;> rfl
        refine G1 F4 (an fze (an fzd tt)) tt tt tt ⟨?_⟩
        refine ⟨_, hC.symm, ?_, (by first | rfl | trivial)⟩
        refine ALe.mk ?_
        simp only [mjB, putAll, blank, List.foldl_cons, List.foldl_nil, List.set_cons_succ, List.set_cons_zero, List.cons_append, List.nil_append, ALe0, true_or, or_true, and_true, true_and, eq_self, reduceCtorEq, false_or]
        try rfl
      | false =>
      cases b40 with
      | false =>
        have hC : (z || badT (.mk 3 t ns vs)) = true := by rw [hB]; cases z <;> rfl
        simp only [Bool.not_false] at fz40
        refine G1 F4 (an fze (an fzd (an fz40 tt))) tt tt tt ⟨?_⟩
        refine ⟨_, hC.symm, ?_, (by first | rfl | trivial)⟩
        refine ALe.mk ?_
        simp only [mjB, putAll, blank, List.foldl_cons, List.foldl_nil, List.set_cons_succ, List.set_cons_zero, List.cons_append, List.nil_append, ALe0, true_or, or_true, and_true, true_and, eq_self, reduceCtorEq, false_or]
        try rfl
      | true =>
      have np : PCall Tryz.prog glob 13 [stA t, .v (.int .i64 0)] (ivC (nuL (bl t))) := rnum_p (bl t) (by have e : (bl t).length = t.size := Array.length_toList; omega)
      simp only [Bool.not_true] at fz40
      cases bq with
      | false =>
        have hC : (z || badT (.mk 3 t ns vs)) = true := by rw [hB]; cases z <;> rfl
        simp only [Bool.not_false] at fzq
        refine G1 F4 (an fze (an fzd (an fz40 (an fzq tt)))) (an np.go tt) tt tt ⟨?_⟩
        refine ⟨_, hC.symm, ?_, (by first | rfl | trivial)⟩
        refine ALe.mk ?_
        simp only [mjB, putAll, blank, List.foldl_cons, List.foldl_nil, List.set_cons_succ, List.set_cons_zero, List.cons_append, List.nil_append, ALe0, true_or, or_true, and_true, true_and, eq_self, reduceCtorEq, false_or]
        try rfl
      | true =>
        have hC : (z || badT (.mk 3 t ns vs)) = z := by rw [hB]; cases z <;> rfl
        simp only [Bool.not_true] at fzq
        refine G1 F4 (an fze (an fzd (an fz40 (an fzq tt)))) (an np.go tt) tt tt ⟨?_⟩
        refine ⟨_, hC.symm, ?_, (by first | rfl | trivial)⟩
        refine ALe.mk ?_
        simp only [mjB, putAll, blank, List.foldl_cons, List.foldl_nil, List.set_cons_succ, List.set_cons_zero, List.cons_append, List.nil_append, ALe0, true_or, or_true, and_true, true_and, eq_self, reduceCtorEq, false_or]
        try rfl
    by_cases c4 : k = 4
    · subst c4
      have rp := rights_p t (by omega)
      obtain ⟨w, hw⟩ : ∃ w, rightL (bl t) = w := ⟨_, rfl⟩
      rw [hw] at rp
      have hB : badT (.mk 4 t ns vs) = !w := by
        rw [badT, if_neg (by decide), if_pos rfl, hw]
      cases w with
      | false =>
        have hC : (z || badT (.mk 4 t ns vs)) = true := by rw [hB]; cases z <;> rfl
        refine G1 F4 tt (an rp.go tt) tt tt ⟨?_⟩
        refine ⟨_, hC.symm, ?_, (by first | rfl | trivial)⟩
        refine ALe.mk ?_
        simp only [mjB, putAll, blank, List.foldl_cons, List.foldl_nil, List.set_cons_succ, List.set_cons_zero, List.cons_append, List.nil_append, ALe0, true_or, or_true, and_true, true_and, eq_self, reduceCtorEq, false_or]
        try rfl
      | true =>
        have hC : (z || badT (.mk 4 t ns vs)) = z := by rw [hB]; cases z <;> rfl
        refine G1 F4 tt (an rp.go tt) tt tt ⟨?_⟩
        refine ⟨_, hC.symm, ?_, (by first | rfl | trivial)⟩
        refine ALe.mk ?_
        simp only [mjB, putAll, blank, List.foldl_cons, List.foldl_nil, List.set_cons_succ, List.set_cons_zero, List.cons_append, List.nil_append, ALe0, true_or, or_true, and_true, true_and, eq_self, reduceCtorEq, false_or]
        try rfl
    have hC : (z || badT (.mk k t ns vs)) = z := by
      rw [badT, if_neg c3, if_neg c4]
      cases z <;> rfl
    have fq3 : ((k : Int) == 3) = false := by rw [beq_eq_false_iff_ne, ne_eq]; omega
    have fq4 : ((k : Int) == 4) = false := by rw [beq_eq_false_iff_ne, ne_eq]; omega
    refine G1 F4 (an fq3 (an fq4 tt)) tt tt tt ⟨?_⟩
    refine ⟨_, hC.symm, ?_, (by first | rfl | trivial)⟩
    refine ALe.mk ?_
    simp only [mjB, putAll, blank, List.foldl_cons, List.foldl_nil, List.set_cons_succ, List.set_cons_zero, List.cons_append, List.nil_append, ALe0, true_or, or_true, and_true, true_and, eq_self, reduceCtorEq, false_or]
    try rfl
  intro x hx
  simp only [mjB, putAll, blank, List.foldl_cons, List.foldl_nil, List.set_cons_succ, List.set_cons_zero, List.cons_append, List.nil_append]
  rw [hz] at hx
  have hx : x = badV (.mk k t ns vs) := hx
  rw [← hx] at bf
  simp only at bf
  clear hx hz
  refine G1 F4 tt tt tt tt ⟨?_⟩
  refine lavc_loopM ms7_0 (fun m (y : Nat × Bool) => m + y.1 = ns.length ∧ y.2 = (x || (ns.take y.1).any fun s => !(rightL (bl s)))) (fun y => [(108, ivC y.1), (5, .v (.bool y.2))]) (fun _ => [Blk.mk [ivC k, stA t, .vsl ns.length (strs ns) none, .vsl vs.length (cellsL vs) none] 0 true 32]) ns.length (0, x) ⟨by show ns.length + 0 = _; omega, by show x = (x || (ns.take 0).any _); rw [List.take_zero]; simp⟩ ?_ rfl ?_
  · try unfold ms7_0
    refine A1 tt ⟨?_⟩
    rfl
  rintro m ⟨j, b⟩ ⟨hk, hi⟩
  try simp only at hk hi ⊢
  try unfold ms7_0
  refine M1 tt ⟨?_⟩
  refine G1 F1 tt tt tt tt ⟨?_⟩
  refine cnd rfl (fun hc => ?_) (fun hc => ?_)
  · have hkl : j < ns.length := by omega
    have hat := strs_at ns j hkl
    have e3 := i64n ((j : Int) + 1) (j + 1) (by omega) (by omega)
    have hst := any_step (fun s => !(rightL (bl s))) (⟨#[]⟩ : ByteArray) ns j hkl
    have hys : (ns.getD j ⟨#[]⟩).size ≤ 2000000 := by
      rw [List.getD_eq_getElem?_getD, List.getElem?_eq_getElem hkl]
      exact hz _ (List.getElem_mem hkl)
    obtain ⟨y, hy⟩ : ∃ y, ns.getD j ⟨#[]⟩ = y := ⟨_, rfl⟩
    rw [hy] at hat hst hys
    have rp := rights_p y (by omega)
    obtain ⟨w, hw⟩ : ∃ w, rightL (bl y) = w := ⟨_, rfl⟩
    rw [hw] at rp
    simp only [hw] at hst
    cases b with
    | true =>
      refine G1 F4 (an e3 tt) tt tt tt ⟨?_⟩
      refine ⟨m - 1, (j + 1, true), by omega, ⟨by show m - 1 + (j + 1) = ns.length; omega, ?_⟩, ?_, (by first | rfl | trivial)⟩
      · show true = _
        rw [hst, ← Bool.or_assoc, ← hi, Bool.true_or]
      · try unfold ms7_0
        exact A0 tt
    | false =>
      cases w with
      | true =>
        refine G1 F4 (an e3 (an hat tt)) (an rp.go tt) tt tt ⟨?_⟩
        refine ⟨m - 1, (j + 1, false), by omega, ⟨by show m - 1 + (j + 1) = ns.length; omega, ?_⟩, ?_, (by first | rfl | trivial)⟩
        · show false = _
          rw [hst, ← Bool.or_assoc, ← hi]
          rfl
        · try unfold ms7_0
          exact A0 tt
      | false =>
        refine G1 F4 (an e3 (an hat tt)) (an rp.go tt) tt tt ⟨?_⟩
        refine ⟨m - 1, (j + 1, true), by omega, ⟨by show m - 1 + (j + 1) = ns.length; omega, ?_⟩, ?_, (by first | rfl | trivial)⟩
        · show true = _
          rw [hst, ← Bool.or_assoc, ← hi]
          rfl
        · try unfold ms7_0
          exact A0 tt
  have hk2 : j = ns.length := by omega
  rw [hk2, List.take_length] at hi
  rw [← hi] at bf
  clear hi hk hk2 hc
  cases b with
  | true =>
    have bf : formV (.mk k t ns vs) = false := bf
    rw [bf, if_pos rfl]
    refine G1 F4 tt tt tt tt ⟨?_⟩
    refine R1 tt ⟨?_⟩
    exact end0 (NR.v _) rfl
  | false =>
    have bf : formV (.mk k t ns vs) = true := bf
    rw [bf, if_neg (by decide)]
    by_cases h64 : 64 < vs.length
    · rw [if_pos h64]
      have d1 : decide ((vs.length : Int) > 64) = true := by rw [decide_eq_true_eq]; omega
      refine G1 F4 (an d1 tt) tt tt tt ⟨?_⟩
      refine R1 tt ⟨?_⟩
      exact end0 (NR.v _) rfl
    rw [if_neg h64]
    have d1 : decide ((vs.length : Int) > 64) = false := by rw [decide_eq_false_iff_not]; omega
    obtain ⟨W, hW⟩ : ∃ W, twiceP ns = W := ⟨_, rfl⟩
    rw [hW]
    refine G1 F4 (an d1 tt) tt tt tt ⟨?_⟩
    refine lavc_loopM ms7_1 (fun m (k : Nat) => m + k = ns.length ∧ twiceK ns k = W) (fun k => [(130, ivC k)]) (fun _ => [Blk.mk [ivC k, stA t, .vsl ns.length (strs ns) none, .vsl vs.length (cellsL vs) none] 0 true 32]) ns.length 0 ⟨by omega, hW⟩ ?_ rfl ?_
    · try unfold ms7_1
      refine A1 tt ⟨?_⟩
      rfl
    rintro m j ⟨hk, hi⟩
    try simp only at hk hi ⊢
    try unfold ms7_1
    refine M1 tt ⟨?_⟩
    refine G1 F1 tt tt tt tt ⟨?_⟩
    refine cnd rfl (fun hc => ?_) (fun hc => ?_)
    · have hkl : j < ns.length := by omega
      have hat := strs_at ns j hkl
      rw [twiceK_step ns j hkl] at hi
      have e3 := i64n ((j : Int) + 1) (j + 1) (by omega) (by omega)
      obtain ⟨y, hy⟩ : ∃ y, ns.getD j ⟨#[]⟩ = y := ⟨_, rfl⟩
      rw [hy] at hat hi
      have htk : List.take j (strs ns) = strs (ns.take j) := by simp [strs, List.map_take]
      have hln : (ns.take j).length = j := by rw [List.length_take]; omega
      have cp := fun c => has_p (ns.take j) c y (by omega)
      rw [hln] at cp
      obtain ⟨w, hw⟩ : ∃ w, decide (0 ≤ idxK (ns.take j) y 0) = w := ⟨_, rfl⟩
      rw [hw] at cp hi
      cases w with
      | true =>
        rw [Bool.true_or] at hi
        subst hi
        rw [if_pos rfl]
        repeat (first
          | (with_reducible refine lops_step fun K hK => ?_; simp (disch := first | exact dch | fail) only [go_sem, Nat.reduceAdd, Nat.reduceSub, reduceIte, Nat.reduceEqDiff, Int.reduceToNat, Int.reduceBEq, Int.reduceBNe, hat, htk, Nat.mul_one, Nat.sub_zero]; (try (first | (refine And.intro (fun _ => ?_) (fun h => absurd h (by decide))) | (refine And.intro (fun h => absurd h (by decide)) (fun _ => ?_)))); (repeat (with_reducible refine And.intro acl ?_)); (first | (refine hK _ _ ?_) | (refine ⟨_, rfl, hK _ _ ?_⟩) | (refine Or.inl (hK _ _ ?_)) | (refine ⟨_, _, Or.inl ((cp _).go _), (by first | exact ⟨[], (List.append_nil _).symm⟩ | exact ⟨_, rfl⟩), hK _ _ ?_⟩) | (refine ⟨_, _, Or.inl ((cp _).go _), hK _ _ ?_⟩) | (refine ⟨_, _, Or.inl ((cp _).go _).weakQ, hK _ _ ?_⟩)); clear hK K)
          | (with_reducible refine lops_nil ?_)
          | (with_reducible first | refine lavc_reg ?_ | refine lavc_seq ?_ | refine lavc_block ?_ | refine lavc_skip ?_ | refine lavc_exit ?_ | refine lavc_ret ?_ | refine lavcR_round ?_)
          | (refine lavc_cond rfl (fun _ => ?_) (fun hc => absurd hc (by decide)))
          | (refine lavc_cond rfl (fun hc => absurd hc (by decide)) (fun _ => ?_))
          | (simp only [↓reduceIte, Nat.reduceEqDiff, reduceCtorEq]))
        refine R1 tt ⟨?_⟩
        exact end0 (NR.v _) rfl
      | false =>
        rw [Bool.false_or] at hi
        repeat (first
          | (with_reducible refine lops_step fun K hK => ?_; simp (disch := first | exact dch | fail) only [go_sem, Nat.reduceAdd, Nat.reduceSub, reduceIte, Nat.reduceEqDiff, Int.reduceToNat, Int.reduceBEq, Int.reduceBNe, hat, htk, Nat.mul_one, Nat.sub_zero, e3]; (try (first | (refine And.intro (fun _ => ?_) (fun h => absurd h (by decide))) | (refine And.intro (fun h => absurd h (by decide)) (fun _ => ?_)))); (repeat (with_reducible refine And.intro acl ?_)); (first | (refine hK _ _ ?_) | (refine ⟨_, rfl, hK _ _ ?_⟩) | (refine Or.inl (hK _ _ ?_)) | (refine ⟨_, _, Or.inl ((cp _).go _), (by first | exact ⟨[], (List.append_nil _).symm⟩ | exact ⟨_, rfl⟩), hK _ _ ?_⟩) | (refine ⟨_, _, Or.inl ((cp _).go _), hK _ _ ?_⟩) | (refine ⟨_, _, Or.inl ((cp _).go _).weakQ, hK _ _ ?_⟩)); clear hK K)
          | (with_reducible refine lops_nil ?_)
          | (with_reducible first | refine lavc_reg ?_ | refine lavc_seq ?_ | refine lavc_block ?_ | refine lavc_skip ?_ | refine lavc_exit ?_ | refine lavc_ret ?_ | refine lavcR_round ?_)
          | (refine lavc_cond rfl (fun _ => ?_) (fun hc => absurd hc (by decide)))
          | (refine lavc_cond rfl (fun hc => absurd hc (by decide)) (fun _ => ?_))
          | (simp only [↓reduceIte, Nat.reduceEqDiff, reduceCtorEq]))
        refine ⟨m - 1, j + 1, by omega, ⟨by omega, hi⟩, ?_, (by first | rfl | trivial)⟩
        try unfold ms7_1
        exact A0 tt
    have hk2 : j = ns.length := by omega
    rw [hk2, twiceK_end] at hi
    subst hi
    clear hk hk2 hc
    rw [if_neg (by decide)]
    obtain ⟨V, hV⟩ : ∃ V, goodL vs (d + 1) = V := ⟨_, rfl⟩
    rw [hV]
    refine G1 F4 tt tt tt tt ⟨?_⟩
    refine lavc_loopM ms7_2 (fun m (k : Nat) => m + k = vs.length ∧ goodL (vs.drop k) (d + 1) = V) (fun k => [(147, ivC k)]) (fun _ => [Blk.mk [ivC k, stA t, .vsl ns.length (strs ns) none, .vsl vs.length (cellsL vs) none] 0 true 32]) vs.length 0 ⟨by omega, hV⟩ ?_ rfl ?_
    · try unfold ms7_2
      refine A1 tt ⟨?_⟩
      rfl
    rintro m j ⟨hk, hi⟩
    try simp only at hk hi ⊢
    try unfold ms7_2
    refine M1 tt ⟨?_⟩
    refine G1 F1 tt tt tt tt ⟨?_⟩
    refine cnd rfl (fun hc => ?_) (fun hc => ?_)
    · have hkl : j < vs.length := by omega
      have hat := cellsL_at vs j hkl
      rw [goodL_step vs j hkl] at hi
      have hmem := getD_mem vs j hkl
      obtain ⟨y, hy⟩ : ∃ y, vs.getD j default = y := ⟨_, rfl⟩
      rw [hy] at hat hi hmem
      have gt := ih y hmem (hall y hmem) (d + 1) (by omega) (by omega)
      have e3 := i64n ((j : Int) + 1) (j + 1) (by omega) (by omega)
      have e2 := i64z (d + 1) (by omega)
      obtain ⟨w, hw⟩ : ∃ w, goodV y (d + 1) = w := ⟨_, rfl⟩
      rw [hw] at gt hi
      obtain ⟨k', t', ns', vs'⟩ := y
      unfold vA at gt
      rw [Val.cells] at gt hat
      by_cases h0 : w = 0
      · subst h0
        rw [if_pos rfl] at hi
        refine G1 F4 (an hat (an hlx (an e2 (an e3 tt)))) (an gt.go tt) tt tt ⟨?_⟩
        refine ⟨m - 1, j + 1, by omega, ⟨by omega, hi⟩, ?_, (by first | rfl | trivial)⟩
        try unfold ms7_2
        exact A0 tt
      · rw [if_neg h0] at hi
        have dw : ((w : Int) != 0) = true := by rw [bne_iff_ne, ne_eq]; omega
        refine G1 F4 (an hat (an hlx (an e2 (an e3 (an dw tt))))) (an gt.go tt) tt tt ⟨?_⟩
        refine R1 tt ⟨?_⟩
        exact end0 (NR.v _) (by rw [← hi])
    · have hk2 : j = vs.length := by omega
      rw [hk2, List.drop_length] at hi
      refine G1 F4 tt tt tt tt ⟨?_⟩
      refine R1 tt ⟨?_⟩
      exact end0 (NR.v _) (by rw [← hi]; rfl)
end Go.Abs.S
