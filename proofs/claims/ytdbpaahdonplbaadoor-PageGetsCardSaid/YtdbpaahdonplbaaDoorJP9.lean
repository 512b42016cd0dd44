/- Values whose texts the document's walks bear. A value that isn't large (page). -/
import Derived.Test.YtdbpaahdonplbaaDoorJP4
import Derived.Test.YtdbpaahdonplbaaDoorJP5
namespace Go.Abs.S
set_option linter.unusedVariables false
set_option linter.unusedSimpArgs false
/-- Values whose texts the document's walks bear. -/
def tiny1 : Val → Prop
  | .mk k t ns vs => t.size ≤ 2000000 ∧ ns.length ≤ 1000 ∧ (∀ s ∈ ns, s.size ≤ 2000000) ∧ vs.length ≤ 1000
mutual
def tiny : Val → Prop
  | .mk k t ns vs => tiny1 (.mk k t ns vs) ∧ tinyL vs
def tinyL : List Val → Prop
  | [] => True
  | v :: l => tiny v ∧ tinyL l
end
theorem tinyL_iff : ∀ {l : List Val}, tinyL l ↔ ∀ v ∈ l, tiny v
  | [] => ⟨fun _ _ h => absurd h List.not_mem_nil, fun _ => trivial⟩
  | v :: l => by rw [tinyL, List.forall_mem_cons, tinyL_iff]
theorem tiny.at {k : Int} {t : ByteArray} {ns : List ByteArray} {vs : List Val} (h : tiny (.mk k t ns vs)) : tiny1 (.mk k t ns vs) ∧ ∀ v ∈ vs, tiny v := by
  rw [tiny, tinyL_iff] at h
  exact h
theorem tiny.small : ∀ v : Val, tiny v → small v := Val.ind fun k t ns vs ih h => by
  obtain ⟨⟨h1, h2, h3, h4⟩, h5⟩ := h.at
  rw [Go.Abs.S.small, smallL_iff]
  exact ⟨⟨by omega, h2, fun s hs => by have := h3 s hs; omega, h4⟩, fun v hv => ih v hv (h5 v hv)⟩
end Go.Abs.S
namespace Go.Abs.S
attribute [local go_sem] lguard aopO aop aenv toAV tput aLoad aStore vcells aBin aNilI aUn aAlloc aBox aBuild aBSlice afill aConv isIntT aappZ aCap aArr aMM aMake aSlice bnd3 bnd aFldAddr aFld aIdxAddr aIdx aExt aLen aCopy aEq0 bAV aUb aapp aappQ agh acont List.getD_cons_zero List.getD_cons_succ List.set_cons_zero List.set_cons_succ List.getElem?_cons_zero List.getElem?_cons_succ List.length_cons List.length_nil List.map_cons List.map_nil ints_length if_true if_false Bool.false_eq_true true_and and_true eq_self ne_eq not_false_eq_true not_true_eq_false beq_self_eq_true Nat.zero_add Nat.add_zero Nat.mul_one Nat.zero_mul Int.toNat_natCast List.toList_toArray List.all_cons List.all_nil AV.one Value.oneCell' Bool.and_true Bool.true_and forall_const true_implies false_implies implies_true Option.map_some Option.map_none Option.isSome_some Option.isSome_none imp_self rdP_flat rdP_row splice_one ints_set ints_get List.append_nil List.cons_append List.nil_append List.getElem?_toArray List.drop_zero ints_drop ints_take List.take_of_length_le splice_all ints_one Option.some.injEq Option.getD_some List.length_replicate zArr List.map_replicate rep_ints splice_intsR List.length_set List.length_append List.flatten_replicate_singleton rep_slice rep_string rep_bool rep_iface List.replicate_zero if_pos if_neg List.mapM_cons List.mapM_nil Option.pure_def Option.bind_eq_bind Option.bind_some Bool.true_eq_false Bool.not_false Bool.not_true get_concat set_concat
open Go.Proofs
set_option linter.unusedVariables false
set_option linter.unusedSimpArgs false
set_option maxRecDepth 100000
set_option maxHeartbeats 8000000
mutual
def fewV : Val → Int → Bool
  | .mk k t ns vs, d => if d = 0 ∨ 100 < t.size ∨ 80 < ns.length ∨ 80 < vs.length then false else (ns.all fun s => decide (s.size ≤ 60)) && fewVL vs (d - 1)
def fewVL : List Val → Int → Bool
  | [], _ => true
  | v :: l, d => fewV v d && fewVL l d
end
theorem fewVL_step (l : List Val) (k : Nat) (h : k < l.length) (d : Int) : fewVL (l.drop k) d = (fewV (l.getD k default) d && fewVL (l.drop (k + 1)) d) := by
  rw [List.drop_eq_getElem_cons h, fewVL, List.getD_eq_getElem?_getD, List.getElem?_eq_getElem h]
  rfl
theorem alln_step (p : ByteArray → Bool) (l : List ByteArray) (k : Nat) (h : k < l.length) : (l.drop k).all p = (p (l.getD k ⟨#[]⟩) && (l.drop (k + 1)).all p) := by
  rw [List.drop_eq_getElem_cons h, List.all_cons, List.getD_eq_getElem?_getD, List.getElem?_eq_getElem h]
  rfl
theorem few_p : ∀ v : Val, ∀ d : Int, 0 ≤ d → d ≤ 12 → PCall Tryd.prog glob 9 [vA v, ivC d] (.v (.bool (fewV v d))) := Val.ind fun k t ns vs ih d hd0 hd1 => by
  have hlx := cellsL_length vs
  have hnx := strs_length ns
  refine PCall.of ctx.nr (List.forall_mem_cons.2 ⟨NR.vA _, List.forall_mem_cons.2 ⟨NR.v _, fun _ h => absurd h List.not_mem_nil⟩⟩) (NR.v _) ?_
  refine lcall9 (by simp) 0 (Nat.le_refl _) ?_
  rw [fewV]
  unfold vA
  rw [Val.cells]
  unfold lc9
  refine I1 tt ⟨?_⟩
  by_cases h0 : d = 0
  · rw [if_pos (.inl h0)]
    have q0 : ((d : Int) == 0) = true := by rw [beq_iff_eq]; omega
    refine G1 F4 (an q0 tt) tt tt tt ⟨?_⟩
    refine R1 tt ⟨?_⟩
    exact end0 (NR.v _) rfl
  have q0 : ((d : Int) == 0) = false := by rw [beq_eq_false_iff_ne, ne_eq]; omega
  by_cases h1 : 100 < t.size
  · rw [if_pos (.inr (.inl h1))]
    have q1 : decide ((t.size : Int) > 100) = true := by rw [decide_eq_true_eq]; omega
    refine G1 F4 (an q0 (an q1 tt)) tt tt tt ⟨?_⟩
    refine R1 tt ⟨?_⟩
    exact end0 (NR.v _) rfl
  have q1 : decide ((t.size : Int) > 100) = false := by rw [decide_eq_false_iff_not]; omega
  by_cases h2 : 80 < ns.length
  · rw [if_pos (.inr (.inr (.inl h2)))]
    have q2 : decide ((ns.length : Int) > 80) = true := by rw [decide_eq_true_eq]; omega
    refine G1 F4 (an q0 (an q1 (an q2 tt))) tt tt tt ⟨?_⟩
    refine R1 tt ⟨?_⟩
    exact end0 (NR.v _) rfl
  have q2 : decide ((ns.length : Int) > 80) = false := by rw [decide_eq_false_iff_not]; omega
  by_cases h3 : 80 < vs.length
  · rw [if_pos (.inr (.inr (.inr h3)))]
    have q3 : decide ((vs.length : Int) > 80) = true := by rw [decide_eq_true_eq]; omega
    refine G1 F4 (an q0 (an q1 (an q2 (an q3 tt)))) tt tt tt ⟨?_⟩
    refine R1 tt ⟨?_⟩
    exact end0 (NR.v _) rfl
  have q3 : decide ((vs.length : Int) > 80) = false := by rw [decide_eq_false_iff_not]; omega
  rw [if_neg (by omega)]
  obtain ⟨V, hV⟩ : ∃ V, ((ns.all fun s => decide (s.size ≤ 60)) && fewVL vs (d - 1)) = V := ⟨_, rfl⟩
  rw [hV]
  refine G1 F4 (an q0 (an q1 (an q2 (an q3 tt)))) tt tt tt ⟨?_⟩
  refine lavc_loopM ms9_0 (fun m (j : Nat) => m + j = ns.length ∧ (((ns.drop j).all fun s => decide (s.size ≤ 60)) && fewVL vs (d - 1)) = V) (fun j => [(32, ivC j)]) (fun _ => [Blk.mk [ivC k, stA t, .vsl ns.length (strs ns) none, .vsl vs.length (cellsL vs) none] 0 true 26]) ns.length 0 ⟨by omega, hV⟩ ?_ rfl ?_
  · try unfold ms9_0
    refine A1 tt ⟨?_⟩
    rfl
  rintro m j ⟨hk, hi⟩
  try simp only at hk hi ⊢
  try unfold ms9_0
  refine M1 tt ⟨?_⟩
  refine G1 F1 tt tt tt tt ⟨?_⟩
  refine cnd rfl (fun hc => ?_) (fun hc => ?_)
  · have hkl : j < ns.length := by omega
    have hat := strs_at ns j hkl
    rw [alln_step _ ns j hkl] at hi
    have e3 := i64n ((j : Int) + 1) (j + 1) (by omega) (by omega)
    obtain ⟨y, hy⟩ : ∃ y, ns.getD j ⟨#[]⟩ = y := ⟨_, rfl⟩
    rw [hy] at hat hi
    by_cases h6 : y.size ≤ 60
    · rw [decide_eq_true h6, Bool.true_and] at hi
      have q6 : decide ((y.size : Int) > 60) = false := by rw [decide_eq_false_iff_not]; omega
      refine G1 F4 (an hat (an e3 (an q6 tt))) tt tt tt ⟨?_⟩
      refine ⟨m - 1, j + 1, by omega, ⟨by omega, hi⟩, ?_, (by first | rfl | trivial)⟩
      try unfold ms9_0
      exact A0 tt
    · rw [decide_eq_false h6, Bool.false_and, Bool.false_and] at hi
      have q6 : decide ((y.size : Int) > 60) = true := by rw [decide_eq_true_eq]; omega
      refine G1 F4 (an hat (an e3 (an q6 tt))) tt tt tt ⟨?_⟩
      refine R1 tt ⟨?_⟩
      exact end0 (NR.v _) (by rw [← hi])
  have hk2 : j = ns.length := by omega
  rw [hk2, List.drop_length, List.all_nil, Bool.true_and] at hi
  clear hk hk2 hc hV
  refine G1 F4 tt tt tt tt ⟨?_⟩
  refine lavc_loopM ms9_1 (fun m (x : Nat × AHeap) => m + x.1 = vs.length ∧ fewVL (vs.drop x.1) (d - 1) = V) (fun x => [(43, ivC x.1)]) (fun x => Blk.mk [ivC k, stA t, .vsl ns.length (strs ns) none, .vsl vs.length (cellsL vs) none] 0 true 26 :: x.2) vs.length (0, []) ⟨by show vs.length + 0 = _; omega, hi⟩ ?_ rfl ?_
  · try unfold ms9_1
    refine A1 tt ⟨?_⟩
    rfl
  rintro m ⟨j, gg⟩ ⟨hk, hi⟩
  try simp only at hk hi ⊢
  try unfold ms9_1
  refine M1 tt ⟨?_⟩
  refine G1 F1 tt tt tt tt ⟨?_⟩
  refine cnd rfl (fun hc => ?_) (fun hc => ?_)
  · have hkl : j < vs.length := by omega
    have hat := cellsL_at vs j hkl
    rw [fewVL_step vs j hkl] at hi
    have hmem := getD_mem vs j hkl
    obtain ⟨y, hy⟩ : ∃ y, vs.getD j default = y := ⟨_, rfl⟩
    rw [hy] at hat hi hmem
    have fp := ih y hmem (d - 1) (by omega) (by omega)
    have e3 := i64n ((j : Int) + 1) (j + 1) (by omega) (by omega)
    have e2 := i64z (d - 1) (by omega)
    obtain ⟨w, hw⟩ : ∃ w, fewV y (d - 1) = w := ⟨_, rfl⟩
    rw [hw] at fp hi
    obtain ⟨k', t', ns', vs'⟩ := y
    unfold vA at fp
    rw [Val.cells] at fp hat
    cases w with
    | true =>
      rw [Bool.true_and] at hi
      refine G1 F4 (an hat (an hlx (an e2 (an e3 tt)))) (an fp.go tt) tt tt ⟨?_⟩
      refine ⟨m - 1, (j + 1, gg ++ [⟨[ivC k', stA t', .vsl ns'.length (strs ns') none, .vsl vs'.length (cellsL vs') none], 0, true, 26⟩]), by omega, ⟨by show m - 1 + (j + 1) = vs.length; omega, hi⟩, ?_, (by first | rfl | trivial)⟩
      try unfold ms9_1
      exact A0 tt
    | false =>
      rw [Bool.false_and] at hi
      refine G1 F4 (an hat (an hlx (an e2 (an e3 tt)))) (an fp.go tt) tt tt ⟨?_⟩
      refine R1 tt ⟨?_⟩
      exact end0 (NR.v _) (by rw [← hi])
  · have hk2 : j = vs.length := by omega
    rw [hk2, List.drop_length] at hi
    refine G1 F4 tt tt tt tt ⟨?_⟩
    refine R1 tt ⟨?_⟩
    exact end0 (NR.v _) (by rw [← hi]; rfl)
theorem fewVL_all : ∀ (l : List Val) (d : Int), fewVL l d = true → ∀ v ∈ l, fewV v d = true
  | [], _, _, v, hv => absurd hv List.not_mem_nil
  | x :: l, d, h, v, hv => by
    rw [fewVL, Bool.and_eq_true] at h
    rcases List.mem_cons.1 hv with rfl | hv
    · exact h.1
    · exact fewVL_all l d h.2 v hv
/-- What such a value is like. -/
theorem few_at {k : Int} {t : ByteArray} {ns : List ByteArray} {vs : List Val} {d : Int} (h : fewV (.mk k t ns vs) d = true) : t.size ≤ 100 ∧ ns.length ≤ 80 ∧ vs.length ≤ 80 ∧ (∀ s ∈ ns, s.size ≤ 60) ∧ ∀ v ∈ vs, fewV v (d - 1) = true := by
  rw [fewV] at h
  by_cases c : d = 0 ∨ 100 < t.size ∨ 80 < ns.length ∨ 80 < vs.length
  · rw [if_pos c] at h
    cases h
  · rw [if_neg c, Bool.and_eq_true, List.all_eq_true] at h
    exact ⟨by omega, by omega, by omega, fun s hs => of_decide_eq_true (h.1 s hs), fewVL_all vs _ h.2⟩
theorem few_tiny : ∀ (v : Val) (d : Int), fewV v d = true → tiny v := Val.ind fun k t ns vs ih d h => by
  obtain ⟨h1, h2, h3, h4, h5⟩ := few_at h
  rw [tiny, tinyL_iff]
  exact ⟨⟨by omega, by omega, fun s hs => by have := h4 s hs; omega, by omega⟩, fun v hv => ih v hv (d - 1) (h5 v hv)⟩
end Go.Abs.S
