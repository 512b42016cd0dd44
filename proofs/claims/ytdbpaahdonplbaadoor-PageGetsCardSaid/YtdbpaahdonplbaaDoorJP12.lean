/- page.Good, of pages of texts. Get, of any value. PageGets, the law. -/
import Derived.Test.YtdbpaahdonplbaaDoorJP4
import Derived.Test.YtdbpaahdonplbaaDoorJP5
import Derived.Test.YtdbpaahdonplbaaDoorJP9
import Derived.Test.YtdbpaahdonplbaaDoorJP7
import Derived.Test.YtdbpaahdonplbaaDoorJP6
namespace Go.Abs.S
attribute [local go_sem] lguard aopO aop aenv toAV tput aLoad aStore vcells aBin aNilI aUn aAlloc aBox aBuild aBSlice afill aConv isIntT aappZ aCap aArr aMM aMake aSlice bnd3 bnd aFldAddr aFld aIdxAddr aIdx aExt aLen aCopy aEq0 bAV aUb aapp aappQ agh acont List.getD_cons_zero List.getD_cons_succ List.set_cons_zero List.set_cons_succ List.getElem?_cons_zero List.getElem?_cons_succ List.length_cons List.length_nil List.map_cons List.map_nil ints_length if_true if_false Bool.false_eq_true true_and and_true eq_self ne_eq not_false_eq_true not_true_eq_false beq_self_eq_true Nat.zero_add Nat.add_zero Nat.mul_one Nat.zero_mul Int.toNat_natCast List.toList_toArray List.all_cons List.all_nil AV.one Value.oneCell' Bool.and_true Bool.true_and forall_const true_implies false_implies implies_true Option.map_some Option.map_none Option.isSome_some Option.isSome_none imp_self rdP_flat rdP_row splice_one ints_set ints_get List.append_nil List.cons_append List.nil_append List.getElem?_toArray List.drop_zero ints_drop ints_take List.take_of_length_le splice_all ints_one Option.some.injEq Option.getD_some List.length_replicate zArr List.map_replicate rep_ints splice_intsR List.length_set List.length_append List.flatten_replicate_singleton rep_slice rep_string rep_bool rep_iface List.replicate_zero if_pos if_neg List.mapM_cons List.mapM_nil Option.pure_def Option.bind_eq_bind Option.bind_some Bool.true_eq_false Bool.not_false Bool.not_true get_concat set_concat
open Go.Proofs
set_option linter.unusedVariables false
set_option linter.unusedSimpArgs false
set_option maxRecDepth 100000
set_option maxHeartbeats 4000000
abbrev textA (s : ByteArray) : AV := .agg (valT s)
theorem NR.textA (s : ByteArray) : NR (textA s) := NR.agg (by
  intro x hx
  simp only [valT, List.mem_cons, List.not_mem_nil, or_false] at hx
  rcases hx with rfl | rfl | rfl | rfl <;> exact NR.v _)
theorem vals_at (X : List ByteArray) (k : Nat) (h : k < X.length) : ((vals X).drop (k * 4)).take 4 = valT (X.getD k ⟨#[]⟩) := by
  induction X generalizing k with
  | nil => exact absurd h (Nat.not_lt_zero _)
  | cons a X ih =>
    have e : vals (a :: X) = valT a ++ vals X := rfl
    have hl : (valT a).length = 4 := rfl
    rw [e]
    cases k with
    | zero => simp [valT]
    | succ k =>
      rw [show (k + 1) * 4 = k * 4 + 1 + 1 + 1 + 1 from by omega]
      have := ih k (by simpa using h)
      simp only [valT, List.cons_append, List.nil_append, List.drop_succ_cons] at this ⊢
      simpa using this
/-- What is wrong with a page of texts. -/
def goodPg (N X : List ByteArray) : Int := if N.all validP = false then 2 else if 64 < N.length then 11 else if twiceP N = true then 10 else if X.all validP = true then 0 else 2
/-- A name's value. -/
def getA (N X : List ByteArray) (name : ByteArray) : AV := if idxK N name 0 < 0 then .tup [.agg [ivC 0, stA ⟨#[]⟩, nlA, nlA], .v (.bool false)] else .tup [textA (X.getD (idxK N name 0).toNat ⟨#[]⟩), .v (.bool true)]
theorem idxK_lt : ∀ (l : List ByteArray) (x : ByteArray) (k : Nat), idxK l x k < ((k + l.length : Nat) : Int) ∧ (idxK l x k = -1 ∨ (k : Int) ≤ idxK l x k)
  | [], x, k => ⟨by simp only [idxK]; omega, .inl rfl⟩
  | a :: l, x, k => by
    have ih := idxK_lt l x (k + 1)
    unfold idxK
    rw [List.length_cons]
    split
    · exact ⟨by omega, .inr (Int.le_refl _)⟩
    · exact ⟨by omega, ih.2.imp id (by omega)⟩
end Go.Abs.S
namespace Go.Abs.S
attribute [local go_sem] lguard aopO aop aenv toAV tput aLoad aStore vcells aBin aNilI aUn aAlloc aBox aBuild aBSlice afill aConv isIntT aappZ aCap aArr aMM aMake aSlice bnd3 bnd aFldAddr aFld aIdxAddr aIdx aExt aLen aCopy aEq0 bAV aUb aapp aappQ agh acont List.getD_cons_zero List.getD_cons_succ List.set_cons_zero List.set_cons_succ List.getElem?_cons_zero List.getElem?_cons_succ List.length_cons List.length_nil List.map_cons List.map_nil ints_length if_true if_false Bool.false_eq_true true_and and_true eq_self ne_eq not_false_eq_true not_true_eq_false beq_self_eq_true Nat.zero_add Nat.add_zero Nat.mul_one Nat.zero_mul Int.toNat_natCast List.toList_toArray List.all_cons List.all_nil AV.one Value.oneCell' Bool.and_true Bool.true_and forall_const true_implies false_implies implies_true Option.map_some Option.map_none Option.isSome_some Option.isSome_none imp_self rdP_flat rdP_row splice_one ints_set ints_get List.append_nil List.cons_append List.nil_append List.getElem?_toArray List.drop_zero ints_drop ints_take List.take_of_length_le splice_all ints_one Option.some.injEq Option.getD_some List.length_replicate zArr List.map_replicate rep_ints splice_intsR List.length_set List.length_append List.flatten_replicate_singleton rep_slice rep_string rep_bool rep_iface List.replicate_zero if_pos if_neg List.mapM_cons List.mapM_nil Option.pure_def Option.bind_eq_bind Option.bind_some Bool.true_eq_false Bool.not_false Bool.not_true get_concat set_concat
open Go.Proofs
set_option linter.unusedVariables false
set_option linter.unusedSimpArgs false
set_option maxRecDepth 100000
set_option maxHeartbeats 4000000
/-- A name's value. -/
def getV : Val → ByteArray → Val × Bool
  | .mk k t ns vs, name => if k ≠ 6 ∨ idxK ns name 0 < 0 ∨ (vs.length : Int) ≤ idxK ns name 0 then (default, false) else (vs.getD (idxK ns name 0).toNat default, true)
theorem view4 {H : AHeap} (k : Int) (t : ByteArray) : View 0 H (.agg [ivC k, stA t, nlA, nlA]) (vA (.mk k t [] [])) := by
  unfold vA
  rw [Val.cells]
  refine .agg rfl (fun j hj => ?_)
  match j, hj with
  | 0, _ => exact .nr (NR.v _)
  | 1, _ => exact .nr (NR.v _)
  | 2, _ => exact .nil
  | 3, _ => exact .nil
theorem NR.gt (v : Val) (b : Bool) : NR (.tup [Go.Abs.S.vA v, .v (.bool b)]) := NR.tup (by intro c hc; simp at hc; rcases hc with rfl | rfl; exact NR.vA v; exact NR.v _)
theorem get_v (v : Val) (h : small1 v) (name : ByteArray) : PCall Tryd.prog glob 10 [vA v, stA name] (.tup [vA (getV v name).1, .v (.bool (getV v name).2)]) := by
  refine PCall.of ctx.nr (List.forall_mem_cons.2 ⟨NR.vA v, List.forall_mem_cons.2 ⟨NR.v _, fun _ h => absurd h List.not_mem_nil⟩⟩) (NR.gt _ _) ?_
  refine lcall10 (by simp) 0 (Nat.le_refl _) ?_
  obtain ⟨k, t, ns, vs⟩ := v
  obtain ⟨ht, hn, hz, hv⟩ := h
  have ip := fun c => index_p ns c name hn
  have hlt := idxK_lt ns name 0
  have hlx := cellsL_length vs
  rw [show getV (.mk k t ns vs) name = if k ≠ 6 ∨ idxK ns name 0 < 0 ∨ (vs.length : Int) ≤ idxK ns name 0 then (default, false) else (vs.getD (idxK ns name 0).toNat default, true) from rfl]
  obtain ⟨i, hi⟩ : ∃ i, idxK ns name 0 = i := ⟨_, rfl⟩
  rw [hi] at ip hlt ⊢
  have zz : ∀ H, View 0 H (.tup [.agg [ivC 0, stA ⟨#[]⟩, nlA, nlA], .v (.bool false)]) (.tup [vA default, .v (.bool false)]) := fun H => view2 (view4 0 ⟨#[]⟩) (.nr (NR.v _))
  unfold vA at zz ⊢
  rw [show (Val.mk k t ns vs).cells = [ivC k, stA t, .vsl ns.length (strs ns) none, .vsl vs.length (cellsL vs) none] from by rw [Val.cells]]
  unfold lc10
  refine I1 tt ⟨?_⟩
  by_cases h6 : k = 6
  · subst h6
    by_cases h0 : i < 0
    · rw [if_pos (.inr (.inl h0))]
      have d0 : decide (i < 0) = true := by rw [decide_eq_true_eq]; omega
      refine G1 F4 (an d0 tt) tt (an (fun u => (ip u).go) tt) tt ⟨?_⟩
      refine R1 tt ⟨?_⟩
      exact endV (zz _)
    have d0 : decide (i < 0) = false := by rw [decide_eq_false_iff_not]; omega
    by_cases h1 : (vs.length : Int) ≤ i
    · rw [if_pos (.inr (.inr h1))]
      have d1 : decide (i ≥ (vs.length : Int)) = true := by rw [decide_eq_true_eq]; omega
      refine G1 F4 (an d0 (an d1 tt)) tt (an (fun u => (ip u).go) tt) tt ⟨?_⟩
      refine R1 tt ⟨?_⟩
      exact endV (zz _)
    have d1 : decide (i ≥ (vs.length : Int)) = false := by rw [decide_eq_false_iff_not]; omega
    rw [if_neg (by omega)]
    obtain ⟨j, rfl⟩ := Int.eq_ofNat_of_zero_le (show 0 ≤ i by omega)
    have hat := cellsL_at vs j (by omega)
    rw [Int.toNat_natCast]
    obtain ⟨y, hy⟩ : ∃ y, vs.getD j default = y := ⟨_, rfl⟩
    rw [hy] at hat ⊢
    have hnr := NR.gt y true
    obtain ⟨k', t', ns', vs'⟩ := y
    unfold vA at hnr
    rw [Val.cells] at hat hnr
    simp only
    rw [Val.cells]
    refine G1 F4 (an d0 (an d1 (an hat (an hlx tt)))) tt (an (fun u => (ip u).go) tt) tt ⟨?_⟩
    refine R1 tt ⟨?_⟩
    exact end0 hnr rfl
  · rw [if_pos (.inl h6)]
    have q : ((k : Int) != 6) = true := by rw [bne_iff_ne, ne_eq]; omega
    refine G1 F4 (an q tt) tt (an (fun u => (ip u).go) tt) tt ⟨?_⟩
    refine R1 tt ⟨?_⟩
    exact endV (zz _)
end Go.Abs.S
namespace Go.Abs.S
attribute [local go_sem] lguard aopO aop aenv toAV tput aLoad aStore vcells aBin aNilI aUn aAlloc aBox aBuild aBSlice afill aConv isIntT aappZ aCap aArr aMM aMake aSlice bnd3 bnd aFldAddr aFld aIdxAddr aIdx aExt aLen aCopy aEq0 bAV aUb aapp aappQ agh acont List.getD_cons_zero List.getD_cons_succ List.set_cons_zero List.set_cons_succ List.getElem?_cons_zero List.getElem?_cons_succ List.length_cons List.length_nil List.map_cons List.map_nil ints_length if_true if_false Bool.false_eq_true true_and and_true eq_self ne_eq not_false_eq_true not_true_eq_false beq_self_eq_true Nat.zero_add Nat.add_zero Nat.mul_one Nat.zero_mul Int.toNat_natCast List.toList_toArray List.all_cons List.all_nil AV.one Value.oneCell' Bool.and_true Bool.true_and forall_const true_implies false_implies implies_true Option.map_some Option.map_none Option.isSome_some Option.isSome_none imp_self rdP_flat rdP_row splice_one ints_set ints_get List.append_nil List.cons_append List.nil_append List.getElem?_toArray List.drop_zero ints_drop ints_take List.take_of_length_le splice_all ints_one Option.some.injEq Option.getD_some List.length_replicate zArr List.map_replicate rep_ints splice_intsR List.length_set List.length_append List.flatten_replicate_singleton rep_slice rep_string rep_bool rep_iface List.replicate_zero if_pos if_neg List.mapM_cons List.mapM_nil Option.pure_def Option.bind_eq_bind Option.bind_some Bool.true_eq_false Bool.not_false Bool.not_true get_concat set_concat
open Go.Proofs
open Go.Proofs.YtdbpaahdonplbaaDoor.Chk (parts)
open Classical
set_option linter.unusedVariables false
set_option linter.unusedSimpArgs false
set_option maxRecDepth 100000
set_option maxHeartbeats 8000000
theorem pick_range (ss : List ByteArray) (d : Nat) : ∀ m, pick ss d (List.range m) = (List.range (min m (ss.length / 2))).map fun k => ss.getD (2 * k + d) ⟨#[]⟩
  | 0 => by rw [Nat.zero_min]; rfl
  | m + 1 => by
    rw [List.range_succ, pick_snoc, pick_range ss d m]
    by_cases h : 2 * m + 2 ≤ ss.length
    · rw [if_pos h, show min (m + 1) (ss.length / 2) = m + 1 by omega, show min m (ss.length / 2) = m by omega, List.range_succ, List.map_append]
      rfl
    · rw [if_neg h, show min (m + 1) (ss.length / 2) = min m (ss.length / 2) by omega]
theorem pick_all (ss : List ByteArray) (d : Nat) : pick ss d (List.range (parts ss.length)) = (List.range (ss.length / 2)).map fun k => ss.getD (2 * k + d) ⟨#[]⟩ := by
  rw [pick_range, show min (parts ss.length) (ss.length / 2) = ss.length / 2 by unfold parts; omega]
theorem map_range_at {α : Type} (f : Nat → α) (n i : Nat) (h : i < n) (d : α) : ((List.range n).map f).getD i d = f i := by
  rw [List.getD_eq_getElem?_getD, List.getElem?_map, List.getElem?_range h]
  rfl
variable {P : Program} {G : Glob} {t : List AV} {H : AHeap} {Q : APost} in
theorem lavc_joinT {a b d : LCode} (ms : List Nat) {X : Type} (I : X → Prop) (live : X → List (Nat × AV)) (hp : X → AHeap)
    (h1 : lavc P G a t H fun e t' H' => match e with
      | .normal => lavc P G b t' H' fun e t' H' => match e with
        | .normal => ∃ x, I x ∧ ALe t' (putAll (blank t ms) (live x)) ∧ H' = hp x
        | e => Q e t' H'
      | e => Q e t' H') (h2 : ∀ x, I x → lavc P G d (putAll (blank t ms) (live x)) (hp x) Q) : lavc P G (.seq a (.seq b d)) t H Q := by
  refine lavc_seq (lavc_mono h1 fun e t' H' h => ?_)
  cases e with
  | normal =>
    refine lavc_seq (lavc_mono h fun e t' H' h => ?_)
    cases e with
    | normal =>
      obtain ⟨x, hx, hle, rfl⟩ := h
      exact lavc_weak (h2 x hx) hle
    | _ => exact h
  | _ => exact h
def mjL : List Nat := [9, 11, 49, 50, 51, 52, 53, 54, 55, 56, 57, 58, 59, 60, 61, 62, 63, 64, 65, 66, 67, 68, 69, 70, 71, 72, 73, 74, 75, 76, 77, 78, 79, 80, 81, 82, 83, 84, 85, 86, 87, 88, 89]
theorem tdiv2 (n : Nat) : ((n : Nat) : Int).tdiv 2 = ((n / 2 : Nat) : Int) := rfl
theorem gets_law (v : Val) (name : ByteArray) (ss : List ByteArray) (hss : ∀ s ∈ ss, s.size ≤ 9223372036854775807) : PCall Tryd.prog glob 3 [vA v, stA name, .vsl ss.length (strs ss) none] (.v (.bool true)) := by
  refine PCall.of ctx.nr (List.forall_mem_cons.2 ⟨NR.vA _, List.forall_mem_cons.2 ⟨NR.v _, List.forall_mem_cons.2 ⟨NR.vsl (NR.strs _), fun _ h => absurd h List.not_mem_nil⟩⟩⟩) (NR.v _) ?_
  refine lcall3 (by simp) 0 (Nat.le_refl _) ?_
  have aw := awake_p
  have fv := few_p v 12 (by decide) (by decide)
  have hv : fewV v 12 = true → small v := fun h => (few_tiny v 12 h).small
  obtain ⟨u, hu⟩ : ∃ w, fewV v 12 = w := ⟨_, rfl⟩
  rw [hu] at fv hv
  have hnv := v.nr
  cases u with
  | false =>
    obtain ⟨k, t, ns, vs⟩ := v
    unfold vA at fv ⊢
    rw [Val.cells] at fv ⊢
    unfold lc3
    refine I1 tt ⟨?_⟩
    refine G1 F4 tt (an aw.go (an fv.go tt)) tt tt ⟨?_⟩
    refine R1 tt ⟨?_⟩
    exact end0 (NR.v _) rfl
  | true =>
  have hs := hv rfl
  have gp := get_v v (by obtain ⟨k, t, ns, vs⟩ := v; exact hs.at.1) name
  have zp := sameZ_p
  obtain ⟨k, t, ns, vs⟩ := v
  have hall := hs.at.2
  have hnx := strs_length ns
  have hlx := cellsL_length vs
  have hsx := strs_length ss
  have hlt := idxK_lt ns name 0
  have hm : ns.length ≤ 1000 ∧ vs.length ≤ 1000 := ⟨hs.at.1.2.1, hs.at.1.2.2.2⟩
  have hvd : (default : Val).cells = [ivC 0, stA ⟨#[]⟩, .vsl 0 [] none, .vsl 0 [] none] := by
    show (Val.mk 0 ⟨#[]⟩ [] []).cells = _
    rw [Val.cells]
    rfl
  unfold vA at fv zp ⊢
  rw [Val.cells] at fv ⊢
  rw [hvd] at zp
  unfold lc3
  refine I1 tt ⟨?_⟩
  by_cases h20 : 20 < ss.length
  · have d20 : decide ((ss.length : Int) > 20) = true := by rw [decide_eq_true_eq]; omega
    refine G1 F4 (an d20 tt) (an aw.go (an fv.go tt)) tt tt ⟨?_⟩
    refine R1 tt ⟨?_⟩
    exact end0 (NR.v _) rfl
  have d20 : decide ((ss.length : Int) > 20) = false := by rw [decide_eq_false_iff_not]; omega
  have e0 := i64z ((ns.length : Int) - 1) (by omega)
  obtain ⟨G, hG⟩ : ∃ G, getV (.mk k t ns vs) name = G := ⟨_, rfl⟩
  rw [hG] at gp
  have hGv : G.1 = default ∨ G.1 ∈ vs := by
    rw [← hG]
    unfold getV
    simp only
    split
    · exact .inl rfl
    · rename_i h
      exact .inr (getD_mem vs _ (by omega))
  have hGs : small G.1 := by
    rcases hGv with h | h
    · rw [h]
      exact small_leaf 0 ⟨#[]⟩ (by decide)
    · exact hall _ h
  have hG2 := hG
  rw [show getV (.mk k t ns vs) name = if k ≠ 6 ∨ idxK ns name 0 < 0 ∨ (vs.length : Int) ≤ idxK ns name 0 then (default, false) else (vs.getD (idxK ns name 0).toNat default, true) from rfl] at hG2
  obtain ⟨⟨kg, tg, ng, vg⟩, B⟩ := G
  simp only at gp hGs
  have gs := same_v _ hGs _ hGs
  rw [eqV_self] at gs
  unfold vA at gp gs
  rw [Val.cells] at gp gs
  rw [Val.cells] at gp
  refine G1 F4 (an d20 (an e0 tt)) (an aw.go (an fv.go (an gp.go tt))) tt tt ⟨?_⟩
  refine lavc_loopM ms3_0 (fun m (x : Nat × Int) => m = x.1 ∧ x.1 ≤ ns.length ∧ x.2 = idxK (ns.drop x.1) name x.1) (fun x => [(10, ivC ((x.1 : Int) - 1)), (9, ivC x.2)]) (fun _ => [Blk.mk [ivC k, stA t, .vsl ns.length (strs ns) none, .vsl vs.length (cellsL vs) none] 0 true 26, Blk.mk [ivC kg, stA tg, .vsl ng.length (strs ng) none, .vsl vg.length (cellsL vg) none] 0 true 26]) ns.length (ns.length, -1) ⟨rfl, Nat.le_refl _, by show (-1 : Int) = idxK (ns.drop ns.length) name ns.length; rw [List.drop_length]; rfl⟩ ?_ rfl ?_
  · refine ALe.mk ?_
    simp only [ms3_0, putAll, blank, List.foldl_cons, List.foldl_nil, List.set_cons_succ, List.set_cons_zero, List.cons_append, List.nil_append, ALe0, true_or, or_true, and_true, true_and, eq_self, reduceCtorEq, false_or]
    try rfl
  rintro m ⟨n, a⟩ ⟨rfl, hn, ha⟩
  simp only at hn ha ⊢
  by_cases hn0 : m = 0
  case neg =>
    obtain ⟨p, rfl⟩ : ∃ p, m = p + 1 := ⟨m - 1, by omega⟩
    have ep : ((p + 1 : Nat) : Int) - 1 = (p : Int) := by omega
    rw [ep]
    have hat := strs_at ns p (by omega)
    have hst := idxK_step ns name p (by omega)
    have e3 := i64z ((p : Int) - 1) (by omega)
    have d0 : decide ((p : Int) ≥ 0) = true := by rw [decide_eq_true_eq]; omega
    obtain ⟨y, hy⟩ : ∃ y, ns.getD p ⟨#[]⟩ = y := ⟨_, rfl⟩
    rw [hy] at hat hst
    try unfold ms3_0
    refine M1 tt ⟨?_⟩
    by_cases hyn : name = y
    · rw [if_pos hyn] at hst
      have q : (y.toList == name.toList) = true := by rw [stA_beq]; exact decide_eq_true hyn.symm
      refine G1 F4 (an d0 (an hat (an hnx (an q (an e3 tt))))) tt tt tt ⟨?_⟩
      refine ⟨p, (p, (p : Int)), by omega, ⟨rfl, by show p ≤ _; omega, by show (p : Int) = idxK (ns.drop p) name p; rw [hst]⟩, ?_, (by first | rfl | trivial)⟩
      try unfold ms3_0
      exact A0 tt
    · rw [if_neg hyn] at hst
      have q : (y.toList == name.toList) = false := by rw [stA_beq]; exact decide_eq_false (fun h => hyn h.symm)
      refine G1 F4 (an d0 (an hat (an hnx (an q (an e3 tt))))) tt tt tt ⟨?_⟩
      refine ⟨p, (p, a), by omega, ⟨rfl, by show p ≤ _; omega, by show a = idxK (ns.drop p) name p; rw [hst, ha]⟩, ?_, (by first | rfl | trivial)⟩
      try unfold ms3_0
      exact A0 tt
  subst hn0
  rw [List.drop_zero] at ha
  rw [show ((0 : Nat) : Int) - 1 = -1 from rfl]
  try unfold ms3_0
  refine M1 tt ⟨?_⟩
  rw [← ha] at hG2 hlt
  have dz : decide ((-1 : Int) ≥ 0) = false := by rw [decide_eq_false_iff_not]; omega
  have tt : (true != true) = false := rfl
  have ff : (false != false) = false := rfl
  have po := pageOf_p ss none (by omega)
  have hnl : (nms ss).length = ss.length / 2 := by unfold nms; rw [pick_all, List.length_map, List.length_range]
  have htl : (txs ss).length = ss.length / 2 := by unfold txs; rw [pick_all, List.length_map, List.length_range]
  have hna : ∀ i, i < ss.length / 2 → (nms ss).getD i ⟨#[]⟩ = ss.getD (2 * i) ⟨#[]⟩ := fun i h => by unfold nms; rw [pick_all, map_range_at _ _ _ h]; rfl
  have hta : ∀ i, i < ss.length / 2 → (txs ss).getD i ⟨#[]⟩ = ss.getD (2 * i + 1) ⟨#[]⟩ := fun i h => by unfold txs; rw [pick_all, map_range_at _ _ _ h]
  obtain ⟨N, hN⟩ : ∃ N, nms ss = N := ⟨_, rfl⟩
  obtain ⟨X, hX⟩ : ∃ N, txs ss = N := ⟨_, rfl⟩
  rw [hN, hX] at po
  rw [hN] at hnl hna
  rw [hX] at htl hta
  unfold pageA at po
  have hNx := strs_length N
  have hXx := vals_length X
  have td := tdiv2 ss.length
  have wd := i64n ((ss.length / 2 : Nat) : Int) (ss.length / 2) rfl (by omega)
  have tn : (((N.length : Nat) : Int) != ((ss.length / 2 : Nat) : Int)) = false := by rw [hnl]; simp
  refine G1 F1 tt tt tt tt ⟨?_⟩
  refine lavc_cond rfl (fun hc => absurd hc (by decide)) (fun _ => lavc_exit ?_)
  simp only [↓reduceIte, Nat.reduceEqDiff, reduceCtorEq]
  refine lavc_joinT mjL (fun (_ : Unit) => True) (fun _ => []) (fun _ => [Blk.mk [ivC k, stA t, .vsl ns.length (strs ns) none, .vsl vs.length (cellsL vs) none] 0 true 26, Blk.mk [ivC kg, stA tg, .vsl ng.length (strs ng) none, .vsl vg.length (cellsL vg) none] 0 true 26]) ?_ ?_
  · clear hnl htl hna hta po tn wd td hNx hXx hsx
    by_cases h6 : k = 6
    case neg =>
      rw [if_pos (.inl h6)] at hG2
      have q6 : ((k : Int) == 6) = false := by rw [beq_eq_false_iff_ne, ne_eq]; omega
      obtain ⟨h1, rfl⟩ := Prod.mk.inj hG2
      obtain ⟨rfl, rfl, rfl, rfl⟩ := Val.mk.inj h1
      have zp : PCall Tryd.prog glob 11 [.agg [ivC 0, stA ⟨#[]⟩, .vsl ([] : List ByteArray).length (strs []) none, .vsl ([] : List Val).length (cellsL []) none], .agg [ivC 0, stA ⟨#[]⟩, nlA, nlA]] (.v (.bool true)) := zp
      refine G1 F4 (an tt (an ff (an q6 tt))) (an zp.go tt) tt tt ⟨?_⟩
      refine ⟨(), trivial, ?_, (by first | rfl | trivial)⟩
      refine ALe.mk ?_
      simp only [mjL, putAll, blank, List.foldl_cons, List.foldl_nil, List.set_cons_succ, List.set_cons_zero, List.cons_append, List.nil_append, ALe0, true_or, or_true, and_true, true_and, eq_self, reduceCtorEq, false_or]
      try rfl
    subst h6
    by_cases ha0 : a < 0
    · rw [if_pos (.inr (.inl ha0))] at hG2
      have qa : decide (a ≥ 0) = false := by rw [decide_eq_false_iff_not]; omega
      try skip
      obtain ⟨h1, rfl⟩ := Prod.mk.inj hG2
      obtain ⟨rfl, rfl, rfl, rfl⟩ := Val.mk.inj h1
      have zp : PCall Tryd.prog glob 11 [.agg [ivC 0, stA ⟨#[]⟩, .vsl ([] : List ByteArray).length (strs []) none, .vsl ([] : List Val).length (cellsL []) none], .agg [ivC 0, stA ⟨#[]⟩, nlA, nlA]] (.v (.bool true)) := zp
      refine G1 F4 (an tt (an ff (an qa tt))) (an zp.go tt) tt tt ⟨?_⟩
      refine ⟨(), trivial, ?_, (by first | rfl | trivial)⟩
      refine ALe.mk ?_
      simp only [mjL, putAll, blank, List.foldl_cons, List.foldl_nil, List.set_cons_succ, List.set_cons_zero, List.cons_append, List.nil_append, ALe0, true_or, or_true, and_true, true_and, eq_self, reduceCtorEq, false_or]
      try rfl
    have qa : decide (a ≥ 0) = true := by rw [decide_eq_true_eq]; omega
    by_cases hav : (vs.length : Int) ≤ a
    · rw [if_pos (.inr (.inr hav))] at hG2
      have qv : decide (a < (vs.length : Int)) = false := by rw [decide_eq_false_iff_not]; omega
      try skip
      obtain ⟨h1, rfl⟩ := Prod.mk.inj hG2
      obtain ⟨rfl, rfl, rfl, rfl⟩ := Val.mk.inj h1
      have zp : PCall Tryd.prog glob 11 [.agg [ivC 0, stA ⟨#[]⟩, .vsl ([] : List ByteArray).length (strs []) none, .vsl ([] : List Val).length (cellsL []) none], .agg [ivC 0, stA ⟨#[]⟩, nlA, nlA]] (.v (.bool true)) := zp
      refine G1 F4 (an tt (an ff (an qa (an qv tt)))) (an zp.go tt) tt tt ⟨?_⟩
      refine ⟨(), trivial, ?_, (by first | rfl | trivial)⟩
      refine ALe.mk ?_
      simp only [mjL, putAll, blank, List.foldl_cons, List.foldl_nil, List.set_cons_succ, List.set_cons_zero, List.cons_append, List.nil_append, ALe0, true_or, or_true, and_true, true_and, eq_self, reduceCtorEq, false_or]
      try rfl
    have qv : decide (a < (vs.length : Int)) = true := by rw [decide_eq_true_eq]; omega
    rw [if_neg (by omega)] at hG2
    obtain ⟨h1, rfl⟩ := Prod.mk.inj hG2
    obtain ⟨j, rfl⟩ := Int.eq_ofNat_of_zero_le (show 0 ≤ a by omega)
    rw [Int.toNat_natCast] at h1
    have hat := cellsL_at vs j (by omega)
    rw [h1, Val.cells] at hat
    refine G1 F4 (an tt (an ff (an qa (an qv (an hat (an hlx tt)))))) (an gs.go tt) tt tt ⟨?_⟩
    refine ⟨(), trivial, ?_, (by first | rfl | trivial)⟩
    refine ALe.mk ?_
    simp only [mjL, putAll, blank, List.foldl_cons, List.foldl_nil, List.set_cons_succ, List.set_cons_zero, List.cons_append, List.nil_append, ALe0, true_or, or_true, and_true, true_and, eq_self, reduceCtorEq, false_or]
    try rfl
  intro _ _
  simp only [mjL, putAll, blank, List.foldl_cons, List.foldl_nil, List.set_cons_succ, List.set_cons_zero, List.cons_append, List.nil_append]
  clear gp gs zp aw hG hGv hGs hG2 ha hlt
  repeat (first
    | (with_reducible refine lops_step fun K hK => ?_; simp (disch := first | exact dch | fail) only [go_sem, Nat.reduceAdd, Nat.reduceSub, reduceIte, Nat.reduceEqDiff, Int.reduceToNat, Int.reduceBEq, Int.reduceBNe, td, wd, tn, hNx]; (try (first | (refine And.intro (fun _ => ?_) (fun h => absurd h (by decide))) | (refine And.intro (fun h => absurd h (by decide)) (fun _ => ?_)))); (repeat (with_reducible refine And.intro acl ?_)); (first | (refine hK _ _ ?_) | (refine ⟨_, rfl, hK _ _ ?_⟩) | (refine Or.inl (hK _ _ ?_)) | (refine ⟨_, _, Or.inl (po.go _), (by first | exact ⟨[], (List.append_nil _).symm⟩ | exact ⟨_, rfl⟩), hK _ _ ?_⟩) | (refine ⟨_, _, Or.inl (po.go _), hK _ _ ?_⟩) | (refine ⟨_, _, Or.inl (po.go _).weakQ, hK _ _ ?_⟩)); clear hK K)
    | (with_reducible refine lops_nil ?_)
    | (with_reducible first | refine lavc_reg ?_ | refine lavc_seq ?_ | refine lavc_block ?_ | refine lavc_skip ?_ | refine lavc_exit ?_ | refine lavc_ret ?_ | refine lavcR_round ?_)
    | (refine lavc_cond rfl (fun _ => ?_) (fun hc => absurd hc (by decide)))
    | (refine lavc_cond rfl (fun hc => absurd hc (by decide)) (fun _ => ?_))
    | (simp only [↓reduceIte, Nat.reduceEqDiff, reduceCtorEq]))
  refine lavc_loopM ms3_1 (fun m (j : Nat) => m + j = N.length) (fun j => [(115, ivC j)]) (fun _ => [Blk.mk [ivC k, stA t, .vsl ns.length (strs ns) none, .vsl vs.length (cellsL vs) none] 0 true 26, Blk.mk [ivC kg, stA tg, .vsl ng.length (strs ng) none, .vsl vg.length (cellsL vg) none] 0 true 26, Blk.mk [ivC 6, stA ⟨#[]⟩, .vsl N.length (strs N) none, .vsl N.length (vals X) none] 0 true 26]) N.length 0 (by omega) ?_ rfl ?_
  · refine ALe.mk ?_
    simp only [ms3_1, putAll, blank, List.foldl_cons, List.foldl_nil, List.set_cons_succ, List.set_cons_zero, List.cons_append, List.nil_append, ALe0, true_or, or_true, and_true, true_and, eq_self, reduceCtorEq, false_or]
    try rfl
  rintro m j hk
  try unfold ms3_1
  refine M1 tt ⟨?_⟩
  refine G1 F1 tt tt tt tt ⟨?_⟩
  refine cnd rfl (fun hc => ?_) (fun hc => ?_)
  · have hkl : j < N.length := by omega
    have hjs : j < ss.length / 2 := by omega
    have hat := strs_at N j hkl
    have hat2 := vals_at X j (by omega)
    rw [hna j hjs] at hat
    rw [hta j hjs] at hat2
    have hs1 := strs_at ss (2 * j) (by omega)
    have hs2 := strs_at ss (2 * j + 1) (by omega)
    have e3 := i64n ((j : Int) + 1) (j + 1) (by omega) (by omega)
    have e4 := i64n (2 * (j : Int)) (2 * j) (by omega) (by omega)
    have e5 := i64n (((2 * j : Nat) : Int) + 1) (2 * j + 1) (by omega) (by omega)
    have hz2 : (ss.getD (2 * j + 1) ⟨#[]⟩).size ≤ 9223372036854775807 := by
      rw [List.getD_eq_getElem?_getD, List.getElem?_eq_getElem (show 2 * j + 1 < ss.length by omega)]
      exact hss _ (List.getElem_mem _)
    obtain ⟨y, hy⟩ : ∃ y, ss.getD (2 * j) ⟨#[]⟩ = y := ⟨_, rfl⟩
    obtain ⟨z, hz⟩ : ∃ y, ss.getD (2 * j + 1) ⟨#[]⟩ = y := ⟨_, rfl⟩
    rw [hy] at hat hs1
    rw [hz] at hat2 hs2 hz2
    unfold valT at hat2
    have sp := sameT_p z hz2
    have q : (y.toList == y.toList) = true := by rw [stA_beq]; exact decide_eq_true rfl
    have qd : decide (y.toList = y.toList) = true := decide_eq_true rfl
    obtain ⟨j2, hj2⟩ : ∃ x, 2 * j = x := ⟨_, rfl⟩
    obtain ⟨j3, hj3⟩ : ∃ x, j2 + 1 = x := ⟨_, rfl⟩
    rw [hj2] at e4 e5 hs1 hs2
    rw [hj3] at e5 hs2
    refine G1 F4 (an hat (an hat2 (an hs1 (an hs2 (an e3 (an e4 (an e5 (an hNx (an hXx (an hsx (an htl (an q (an qd tt))))))))))))) (an sp.go tt) tt tt ⟨?_⟩
    refine ⟨m - 1, j + 1, by omega, by omega, ?_, (by first | rfl | trivial)⟩
    try unfold ms3_1
    exact A0 tt
  · refine G1 F4 tt tt tt tt ⟨?_⟩
    refine R1 tt ⟨?_⟩
    exact end0 (NR.v _) rfl
end Go.Abs.S
