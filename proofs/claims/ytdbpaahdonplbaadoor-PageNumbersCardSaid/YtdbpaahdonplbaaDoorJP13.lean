/- Numbers, alone and in a list, plainly. PageNumbers, the law. -/
import Derived.Test.YtdbpaahdonplbaaDoorJP10
import Derived.Test.YtdbpaahdonplbaaDoorJP5
import Derived.Test.YtdbpaahdonplbaaDoorJP7
import Derived.Test.YtdbpaahdonplbaaDoorJP6
namespace Go.Abs.S
open Go.Proofs
set_option linter.unusedVariables false
set_option linter.unusedSimpArgs false
set_option maxRecDepth 100000
set_option maxHeartbeats 4000000
theorem nu_le (l : List UInt8) : nuL l ≤ l.length := by
  unfold nuL
  split
  · exact Nat.zero_le _
  · have h2 := intL_le l (sgL l) (sgL_le l)
    cases hf : fracL l (sgL l + intL l (sgL l)) with
    | none => exact Nat.zero_le _
    | some c =>
      have h3 := fracL_le l _ c h2 hf
      rw [Option.bind_some]
      cases hp : powL l c with
      | none => exact Nat.zero_le _
      | some e => exact powL_le l c e h3 hp
theorem nu_head (c : UInt8) (x : List UInt8) (h : nuL (c :: x) ≠ 0) : c.toNat = 45 ∨ isD c = true := by
  by_cases h45 : c.toNat = 45
  · exact .inl h45
  · right
    cases hd : isD c with
    | true => rfl
    | false =>
      exfalso
      apply h
      have hs : sgL (c :: x) = 0 := by rw [sgL_at, if_neg (fun g => h45 g.2)]
      have hg : dgL (c :: x) = 0 := by rw [dgL, if_neg (by rw [hd]; decide)]
      unfold nuL
      rw [hs]
      have hi : intL (c :: x) 0 = 0 := by
        unfold intL
        rw [List.drop_zero, hg, if_neg (fun g => absurd g.1 (by decide))]
      rw [hi, if_pos rfl]
theorem isD_nat (c : UInt8) (h : isD c = true) : 48 ≤ c.toNat ∧ c.toNat ≤ 57 := by
  unfold isD at h
  simp only [Bool.and_eq_true, decide_eq_true_eq] at h
  omega
theorem ne_of_nat {a b : UInt8} (h : a.toNat ≠ b.toNat) : a ≠ b := fun e => h (by rw [e])
theorem bl_num (c : UInt8) (h : c.toNat = 45 ∨ isD c = true) : isBl c = false ∧ (c.toNat = 45 ∨ (48 ≤ c.toNat ∧ c.toNat ≤ 57)) := by
  have h2 : c.toNat = 45 ∨ (48 ≤ c.toNat ∧ c.toNat ≤ 57) := by
    rcases h with h | h
    · exact .inl h
    · exact .inr (isD_nat c h)
  refine ⟨?_, h2⟩
  have key : ∀ n : Nat, n < 256 → (n = 45 ∨ (48 ≤ n ∧ n ≤ 57)) → isBl (UInt8.ofNat n) = false := by decide +kernel
  have := key c.toNat c.toNat_lt h2
  rwa [UInt8.ofNat_toNat] at this
theorem value_num (n : Nat) (d : Int) (hd : d ≤ 8) (w : List UInt8) (hw : ∀ c ∈ w, isBl c = true) (l r : List UInt8) (hn : nuL l = l.length) (h0 : l ≠ []) (h40 : l.length ≤ 40) (hr : stopC r) : valueP (n + 1) d (w ++ (l ++ r), 0) = (.mk 3 (bs l) [] [], (r, 0)) := by
  obtain ⟨c, x, rfl⟩ : ∃ c x, l = c :: x := by
    cases l with
    | nil => exact absurd rfl h0
    | cons c x => exact ⟨c, x, rfl⟩
  have hz : nuL (c :: x) ≠ 0 := by rw [hn]; simp
  obtain ⟨hb, hc⟩ := bl_num c (nu_head c x hz)
  have hne : ∀ a : UInt8, a.toNat ≠ 45 → ¬ (48 ≤ a.toNat ∧ a.toNat ≤ 57) → a ≠ c := fun a h1 h2 => ne_of_nat (by rcases hc with h | h <;> omega)
  have hna := nu_app (c :: x) r hr
  rw [hn, List.cons_append] at hna
  rw [List.cons_append, value_go n d hd w hw c _ hb]
  rw [if_neg (by rw [nullB, pre_head _ _ _ _ (hne 110 (by decide) (by decide))]; decide), if_neg (by rw [falseB, pre_head _ _ _ _ (hne 102 (by decide) (by decide))]; decide), if_neg (by rw [trueB, pre_head _ _ _ _ (hne 116 (by decide) (by decide))]; decide),
    if_neg (by rw [pre_head _ _ _ _ (hne 34 (by decide) (by decide))]; decide), if_neg (by rw [pre_head _ _ _ _ (hne 91 (by decide) (by decide))]; decide), if_neg (by rw [pre_head _ _ _ _ (hne 123 (by decide) (by decide))]; decide), hna, if_neg (by rw [List.length_cons] at h40 ⊢; omega)]
  rw [← List.cons_append, List.take_left, List.drop_left]
theorem parts_one (V : St → Val × St) (c : UInt8) (x r : List UInt8) (v : Val) (hb : isBl c = false) (hc : c ≠ 93) (hV : V (c :: x, 0) = (v, (93 :: r, 0))) : partsR V 5 [93] (c :: x, 0) = (.mk 5 (bs []) [] [v], (r, 0)) := by
  have hb0 := blanks_go [] (fun _ h => absurd h List.not_mem_nil) c x hb
  have hb1 := blanks_go [] (fun _ h => absurd h List.not_mem_nil) 93 r (by decide)
  rw [List.nil_append] at hb0 hb1
  unfold partsR
  rw [hb0, if_neg (by rw [pre_head _ _ _ _ (fun h => hc h.symm)]; decide)]
  rw [partsP]
  rw [if_neg (fun h : (0 : Int) ≠ 0 => h rfl)]
  simp only [List.length_nil, show ¬ 64 ≤ 0 by decide, if_false, show ¬ ((5 : Int) = 6) by decide, hV, hb1]
  rw [if_pos (by rw [pre_one]; decide), take_one]
  rfl
theorem parse_num (l : List UInt8) (hn : nuL l = l.length) (h0 : l ≠ []) (h40 : l.length ≤ 40) : parseP ([91] ++ (l ++ [93])) = (.mk 5 (bs []) [] [.mk 3 (bs l) [] []], 0) := by
  refine parse_of _ _ [] ?_ (fun _ h => absurd h List.not_mem_nil)
  have hg := value_go 9 1 (by decide) [] (fun _ h => absurd h List.not_mem_nil) 91 (l ++ [93]) (by decide)
  rw [List.nil_append] at hg
  show valueP 10 1 (91 :: (l ++ [93]), 0) = _
  rw [hg, if_neg (by rw [nullB, pre_head _ _ _ _ (by decide)]; decide), if_neg (by rw [falseB, pre_head _ _ _ _ (by decide)]; decide), if_neg (by rw [trueB, pre_head _ _ _ _ (by decide)]; decide), if_neg (by rw [pre_one]; decide), if_pos (by rw [pre_one]; decide), take_one]
  obtain ⟨c, x, rfl⟩ : ∃ c x, l = c :: x := by
    cases l with
    | nil => exact absurd rfl h0
    | cons c x => exact ⟨c, x, rfl⟩
  have hz : nuL (c :: x) ≠ 0 := by rw [hn]; simp
  obtain ⟨hb, hc⟩ := bl_num c (nu_head c x hz)
  have hv := value_num 8 2 (by decide) [] (fun _ h => absurd h List.not_mem_nil) (c :: x) [93] hn h0 h40 (by unfold stopC; decide)
  rw [List.nil_append] at hv
  exact parts_one _ c (x ++ [93]) [] _ hb (ne_of_nat (by have : (93 : UInt8).toNat = 93 := rfl; omega)) hv
/-- What a list's, or a page's, parts come to: none, or more than there were. -/
theorem parts_kind (V : St → Val × St) (k : Int) (sh : List UInt8) : ∀ (n : Nat) (ns : List ByteArray) (vs : List Val) (s : St), (partsP V k sh n ns vs s).1 = default ∨ ∃ ns' us, us ≠ [] ∧ (partsP V k sh n ns vs s).1 = .mk k (bs []) ns' (vs ++ us)
  | 0, ns, vs, s => .inl rfl
  | n + 1, ns, vs, s => by
    rw [partsP]
    by_cases h0 : s.2 ≠ 0
    · rw [if_pos h0]
      exact .inl rfl
    rw [if_neg h0]
    simp only
    obtain ⟨a, ha⟩ : ∃ a, (if k = 6 then ns ++ [(nameP ns (if 64 ≤ vs.length then giveP 11 s else s)).1] else ns) = a := ⟨_, rfl⟩
    obtain ⟨b, hb⟩ : ∃ b, (if k = 6 then (nameP ns (if 64 ≤ vs.length then giveP 11 s else s)).2 else (if 64 ≤ vs.length then giveP 11 s else s)) = b := ⟨_, rfl⟩
    rw [ha, hb]
    by_cases hp : sh.isPrefixOf (blanksP (V b).2).1 = true
    · rw [if_pos hp]
      exact .inr ⟨_, _, List.cons_ne_nil _ _, rfl⟩
    · rw [if_neg hp]
      rcases parts_kind V k sh n a (vs ++ [(V b).1]) _ with h | ⟨ns', us, h1, h2⟩
      · exact .inl h
      · refine .inr ⟨ns', (V b).1 :: us, List.cons_ne_nil _ _, ?_⟩
        rw [h2, List.append_assoc]
        rfl
theorem partsR_kind (V : St → Val × St) (k : Int) (sh : List UInt8) (s : St) : (partsR V k sh s).1 = default ∨ ∃ ns' us, (partsR V k sh s).1 = .mk k (bs []) ns' us := by
  unfold partsR
  split
  · exact .inr ⟨[], [], rfl⟩
  · rcases parts_kind V k sh 67 [] [] (blanksP s) with h | ⟨ns', us, _, h⟩
    · exact .inl h
    · exact .inr ⟨ns', _, h⟩
theorem default_mk : (default : Val) = .mk 0 ⟨#[]⟩ [] [] := rfl
/-- A number that was read is one. -/
theorem value_back (n : Nat) (d : Int) (s : St) (t : ByteArray) (h : (valueP (n + 1) d s).1 = .mk 3 t [] []) : bl t ≠ [] ∧ (bl t).length ≤ 40 ∧ nuL (bl t) = (bl t).length := by
  rw [valueP] at h
  obtain ⟨s2, hs2⟩ : ∃ x, (if 8 < d ∧ (blanksP s).1 ≠ [] then giveP 9 (blanksP s) else blanksP s) = x := ⟨_, rfl⟩
  simp only [hs2] at h
  have kd : ∀ (V : St → Val × St) (k : Int) (sh : List UInt8) (s : St), k ≠ 3 → (partsR V k sh s).1 ≠ .mk 3 t [] [] := fun V k sh s hk he => by
    rcases partsR_kind V k sh s with h | ⟨a, b, h⟩
    · rw [h, default_mk] at he
      injection he with e
      exact absurd e (by decide)
    · rw [h] at he
      injection he with e
      exact hk e
  split at h
  · injection h with e
    exact absurd e (by decide)
  split at h
  · injection h with e
    exact absurd e (by decide)
  split at h
  · injection h with e
    exact absurd e (by decide)
  split at h
  · injection h with e
    exact absurd e (by decide)
  split at h
  · exact absurd h (kd _ 5 _ _ (by decide))
  split at h
  · exact absurd h (kd _ 6 _ _ (by decide))
  split at h
  · rw [default_mk] at h
    injection h with e
    exact absurd e (by decide)
  · rename_i hn
    injection h with _ e
    have hle := nu_le s2.1
    have e2 : bl t = s2.1.take (nuL s2.1) := by
      rw [← e]
      rfl
    have h0 : nuL s2.1 ≠ 0 := fun x => hn (.inl x)
    have ht := nu_take s2.1 (nuL s2.1) rfl h0
    have hl : (s2.1.take (nuL s2.1)).length = nuL s2.1 := by rw [List.length_take]; omega
    rw [e2, ht, hl]
    refine ⟨fun x => ?_, by omega, rfl⟩
    rw [x] at hl
    exact h0 hl.symm
theorem parse_back (l : List UInt8) (s : ByteArray) (t : ByteArray) (h : parseP ([91] ++ (l ++ [93])) = (.mk 5 t [] [.mk 3 s [] []], 0)) : bl s ≠ [] ∧ (bl s).length ≤ 40 ∧ nuL (bl s) = (bl s).length := by
  have h1 : (valueP 10 1 ([91] ++ (l ++ [93]), 0)).1 = .mk 5 t [] [.mk 3 s [] []] := by
    unfold parseP at h
    simp only at h
    obtain ⟨z, hz⟩ : ∃ z, (if (blanksP (valueP 10 1 ([91] ++ (l ++ [93]), 0)).2).1 ≠ [] then giveP 2 (blanksP (valueP 10 1 ([91] ++ (l ++ [93]), 0)).2) else blanksP (valueP 10 1 ([91] ++ (l ++ [93]), 0)).2) = z := ⟨_, rfl⟩
    rw [hz] at h
    split at h
    · have e := congrArg Prod.fst h
      rw [default_mk] at e
      injection e with e
      exact absurd e (by decide)
    · exact congrArg Prod.fst h
  have hg := value_go 9 1 (by decide) [] (fun _ h => absurd h List.not_mem_nil) 91 (l ++ [93]) (by decide)
  rw [List.nil_append] at hg
  rw [show ([91] ++ (l ++ [93]) : List UInt8) = 91 :: (l ++ [93]) from rfl, hg, if_neg (by rw [nullB, pre_head _ _ _ _ (by decide)]; decide), if_neg (by rw [falseB, pre_head _ _ _ _ (by decide)]; decide), if_neg (by rw [trueB, pre_head _ _ _ _ (by decide)]; decide), if_neg (by rw [pre_one]; decide), if_pos (by rw [pre_one]; decide), take_one] at h1
  unfold partsR at h1
  split at h1
  · injection h1 with _ _ _ e
    cases e
  · rw [partsP] at h1
    split at h1
    · rw [default_mk] at h1
      injection h1 with e
      exact absurd e (by decide)
    · simp only [List.length_nil, show ¬ 64 ≤ 0 by decide, if_false, show ¬ ((5 : Int) = 6) by decide, List.nil_append] at h1
      split at h1
      · injection h1 with _ _ _ e
        injection e with e
        exact value_back 8 2 _ s e
      · rcases parts_kind (valueP 9 (1 + 1)) 5 [93] 66 [] [(valueP 9 (1 + 1) (blanksP (l ++ [93], 0))).1] _ with g | ⟨a, b, hb, g⟩
        · rw [g, default_mk] at h1
          injection h1 with e
          exact absurd e (by decide)
        · rw [g] at h1
          injection h1 with _ _ _ e
          exfalso
          have := congrArg List.length e
          simp only [List.length_append, List.length_cons, List.length_nil] at this
          exact hb (List.eq_nil_of_length_eq_zero (by omega))
end Go.Abs.S
namespace Go.Abs.S
attribute [local go_sem] lguard aopO aop aenv toAV tput aLoad aStore vcells aBin aNilI aUn aAlloc aBox aBuild aBSlice afill aConv isIntT aappZ aCap aArr aMM aMake aSlice bnd3 bnd aFldAddr aFld aIdxAddr aIdx aExt aLen aCopy aEq0 bAV aUb aapp aappQ agh acont List.getD_cons_zero List.getD_cons_succ List.set_cons_zero List.set_cons_succ List.getElem?_cons_zero List.getElem?_cons_succ List.length_cons List.length_nil List.map_cons List.map_nil ints_length if_true if_false Bool.false_eq_true true_and and_true eq_self ne_eq not_false_eq_true not_true_eq_false beq_self_eq_true Nat.zero_add Nat.add_zero Nat.mul_one Nat.zero_mul Int.toNat_natCast List.toList_toArray List.all_cons List.all_nil AV.one Value.oneCell' Bool.and_true Bool.true_and forall_const true_implies false_implies implies_true Option.map_some Option.map_none Option.isSome_some Option.isSome_none imp_self rdP_flat rdP_row splice_one ints_set ints_get List.append_nil List.cons_append List.nil_append List.getElem?_toArray List.drop_zero ints_drop ints_take List.take_of_length_le splice_all ints_one Option.some.injEq Option.getD_some List.length_replicate zArr List.map_replicate rep_ints splice_intsR List.length_set List.length_append List.flatten_replicate_singleton rep_slice rep_string rep_bool rep_iface List.replicate_zero if_pos if_neg List.mapM_cons List.mapM_nil Option.pure_def Option.bind_eq_bind Option.bind_some Bool.true_eq_false Bool.not_false Bool.not_true get_concat set_concat
open Go.Proofs
open Classical
set_option linter.unusedVariables false
set_option linter.unusedSimpArgs false
set_option maxRecDepth 100000
set_option maxHeartbeats 8000000
theorem avle_vsl {n : Nat} {xs ys : List AV} {c : Option Nat} (h : AvLs xs ys) : AvLe (.vsl n xs c) (.vsl n ys none) := fun σ w u hu => by
  have hl := h.length
  cases hu with
  | vsl B o cap f hr hm ha hn hc => exact .vsl B o cap f hr (fun j hj => hm j (by omega)) (fun j hj => h.get j (by omega) _ _ _ (ha j (by omega))) hn (fun c hc => by cases hc)
  | vsl0 =>
    cases ys with
    | nil => exact .vsl0 _ _ (fun c hc => by cases hc)
    | cons _ _ => cases hl
def rightN (s : ByteArray) : Bool := !(decide (s.size = 0)) && (decide (s.size ≤ 40) && decide (nuL (bl s) = s.size))
theorem good_num (s : ByteArray) : goodV (.mk 3 s [] []) 1 = if rightN s = true then 0 else 2 := by
  have hf : formV (.mk 3 s [] []) = rightN s := by
    rw [formV, if_neg (by decide), if_pos rfl]
    unfold rightN
    cases decide (s.size = 0) <;> cases decide (s.size ≤ 40) <;> cases decide (nuL (bl s) = s.size) <;> rfl
  rw [goodV, if_neg (by decide), hf]
  cases rightN s with
  | true =>
    rw [if_neg (by decide), if_pos rfl]
    rfl
  | false =>
    rw [if_pos rfl]
    rfl
theorem numbers_law (s : ByteArray) : PCall Tryd.prog glob 7 [stA s] (.v (.bool true)) := by
  refine PCall.of ctx.nr nrs (NR.v _) ?_
  refine lcall7 (by simp) 0 (Nat.le_refl _) ?_
  have aw := awake_p
  unfold lc7
  refine I1 tt ⟨?_⟩
  by_cases h2 : 60 < s.size
  · have d2 : decide ((s.size : Int) > 60) = true := by rw [decide_eq_true_eq]; omega
    refine G1 F4 (an d2 tt) (an aw.go tt) tt tt ⟨?_⟩
    refine R1 tt ⟨?_⟩
    exact end0 (NR.v _) rfl
  have d2 : decide ((s.size : Int) > 60) = false := by rw [decide_eq_false_iff_not]; omega
  have hsl : (bl s).length = s.size := Array.length_toList
  have np : PCall Tryd.prog glob 21 [stA s, .v (.int .i64 0)] (ivC (nuL (bl s))) := rnum_p (bl s) (by omega)
  have hg := good_num s
  have hsm := small_leaf 3 s (by omega)
  have pe : (prV (.mk 3 s [] [])) = bl s := by
    rw [prV]
    rfl
  have hss : bs (bl s) = s := bs_bl s
  have nA : ∀ k t, AvLe (.agg [ivC k, stA t, nlA, nlA]) (vA (.mk k t [] [])) := fun k t => by
    unfold vA
    rw [Val.cells]
    exact avle_ag ⟨AvLe.refl _, AvLe.refl _, AvLe.nil, AvLe.nil, trivial⟩
  have nL : AvLe (.agg [ivC 5, stA ⟨#[]⟩, nlA, .vsl 1 [ivC 3, stA s, nlA, nlA] (some 1)]) (vA (.mk 5 ⟨#[]⟩ [] [.mk 3 s [] []])) := by
    unfold vA
    rw [Val.cells, cellsL, cellsL, Val.cells, List.append_nil]
    exact avle_ag ⟨AvLe.refl _, AvLe.refl _, AvLe.nil, avle_vsl ⟨AvLe.refl _, AvLe.refl _, AvLe.nil, AvLe.nil, trivial⟩, trivial⟩
  have hsL : small (.mk 5 ⟨#[]⟩ [] [.mk 3 s [] []]) := by
    rw [small, smallL_iff]
    exact ⟨⟨by decide, by decide, fun _ h => absurd h List.not_mem_nil, by simp⟩, fun v hv => by rw [List.mem_singleton.1 hv]; exact hsm⟩
  have pp := Parse_p ([91] ++ (bl s ++ [93])) (by simp only [List.length_append, List.length_cons, List.length_nil]; omega)
  have po := (parse_out ([91] ++ (bl s ++ [93])) (by simp only [List.length_append, List.length_cons, List.length_nil]; omega)).1
  have e1 : (⟨#[91]⟩ : ByteArray) ++ s = bs ([91] ++ bl s) := by
    have h := bs_append [91] (bl s)
    rwa [hss] at h
  have e2 : bs ([91] ++ bl s) ++ (⟨#[93]⟩ : ByteArray) = bs ([91] ++ (bl s ++ [93])) := by
    rw [show (⟨#[93]⟩ : ByteArray) = bs [93] from rfl, bs_append, List.append_assoc]
  have z1 : (#[91] : Array UInt8).size = 1 := rfl
  have z2 : (#[93] : Array UInt8).size = 1 := rfl
  have l1 : ([91] ++ bl s).length = s.size + 1 := by rw [List.length_append, hsl]; exact Nat.add_comm 1 _
  have sp := same_v _ po _ hsL
  have hr1 : rightN s = true → parseP ([91] ++ (bl s ++ [93])) = (.mk 5 (bs []) [] [.mk 3 s [] []], 0) := fun h => by
    unfold rightN at h
    simp only [Bool.and_eq_true, Bool.not_eq_true', decide_eq_true_eq, decide_eq_false_iff_not] at h
    have := parse_num (bl s) (by omega) (fun e => by rw [e] at hsl; exact h.1 hsl.symm) (by omega)
    rwa [hss] at this
  have hr2 : rightN s = false → (parseP ([91] ++ (bl s ++ [93]))).2 = 0 → eqV (parseP ([91] ++ (bl s ++ [93]))).1 (.mk 5 ⟨#[]⟩ [] [.mk 3 s [] []]) = false := fun h h0 => by
    unfold eqV
    refine decide_eq_false fun e => ?_
    obtain ⟨a1, a2, a3⟩ := parse_back (bl s) s ⟨#[]⟩ (by rw [← e, ← h0])
    have : rightN s = true := by
      unfold rightN
      simp only [Bool.and_eq_true, Bool.not_eq_true', decide_eq_true_eq, decide_eq_false_iff_not]
      exact ⟨fun z => a1 (List.eq_nil_of_length_eq_zero (by omega)), by omega, by omega⟩
    rw [h] at this
    cases this
  obtain ⟨P1, hP1⟩ : ∃ P, [91] ++ bl s = P := ⟨_, rfl⟩
  obtain ⟨P2, hP2⟩ : ∃ P, [91] ++ (bl s ++ [93]) = P := ⟨_, rfl⟩
  rw [hP1] at e1 e2 l1
  rw [hP2] at e2 pp po sp hr1 hr2
  clear hP1 hP2
  obtain ⟨E, hE⟩ : ∃ E, eqV (parseP P2).1 (.mk 5 ⟨#[]⟩ [] [.mk 3 s [] []]) = E := ⟨_, rfl⟩
  rw [hE] at sp hr2
  have q : (s.toList == s.toList) = true := by rw [stA_beq]; exact decide_eq_true rfl
  have qd : decide (s.toList = s.toList) = true := decide_eq_true rfl
  have hsp : splice (List.replicate 1 [AV.v (.int .i64 0), stA ⟨#[]⟩, nlA, nlA]).flatten 0 [AV.v (.int .i64 3), stA s, nlA, nlA] = [AV.v (.int .i64 3), stA s, nlA, nlA] := rfl
  have b0 := size0 s
  have b0d : decide (s.toList = (⟨#[]⟩ : ByteArray).toList) = decide (s.size = 0) := by rw [← b0]; exact (bs_same _ _).symm
  have b40 := intl s.size 40
  have bq := intq (nuL (bl s)) s.size
  obtain ⟨x0, hx0⟩ : ∃ b, decide (s.size = 0) = b := ⟨_, rfl⟩
  obtain ⟨x1, hx1⟩ : ∃ b, decide (s.size ≤ 40) = b := ⟨_, rfl⟩
  obtain ⟨x2, hx2⟩ : ∃ b, decide (nuL (bl s) = s.size) = b := ⟨_, rfl⟩
  have hrN : rightN s = (!x0 && (x1 && x2)) := by unfold rightN; rw [hx0, hx1, hx2]
  rw [hx0] at b0 b0d
  have b0n : (s.toList != (⟨#[]⟩ : ByteArray).toList) = !x0 := by rw [bne, b0]
  rw [hx1] at b40
  have b40 : decide ((s.size : Int) ≤ 40) = x1 := b40
  rw [hx2] at bq
  rw [hrN] at hg hr1 hr2
  have hcase : (!x0 && (x1 && x2)) = true ∨ (!x0 && (x1 && x2)) = false := by cases (!x0 && (x1 && x2)) <;> simp
  rcases hcase with hc | hc
  · have hx : x0 = false ∧ x1 = true ∧ x2 = true := by cases x0 <;> cases x1 <;> cases x2 <;> simp at hc ⊢
    obtain ⟨rfl, rfl, rfl⟩ := hx
    have hpz := hr1 rfl
    rw [if_pos (by decide)] at hg
    have pr : PCall Tryd.prog glob 13 [.agg [ivC 3, stA s, nlA, nlA]] (.tup [stA s, ivC 0]) := by
      have h := Print_good _ hsm hg (by rw [pe]; omega)
      rw [pe, hss] at h
      exact h.les ⟨nA 3 s, trivial⟩
    have hE1 : E = true := by
      rw [← hE, hpz]
      exact eqV_self _
    subst hE1
    rw [hpz] at pp sp
    have sp2 : PCall Tryd.prog glob 11 [.agg [ivC 5, stA (bs []), .vsl 0 (strs []) none, .vsl 1 (cellsL [.mk 3 s [] []]) none], .agg [ivC 5, stA ⟨#[]⟩, nlA, .vsl 1 [ivC 3, stA s, nlA, nlA] (some 1)]] (.v (.bool true)) := by
      have h : PCall Tryd.prog glob 11 [vA (.mk 5 (bs []) [] [.mk 3 s [] []]), .agg [ivC 5, stA ⟨#[]⟩, nlA, .vsl 1 [ivC 3, stA s, nlA, nlA] (some 1)]] (.v (.bool true)) := sp.les ⟨AvLe.refl _, nL, trivial⟩
      unfold vA at h
      rw [Val.cells] at h
      exact h
    unfold vA at pp
    rw [Val.cells] at pp
    repeat (first
      | (with_reducible refine lops_step fun K hK => ?_; simp (disch := first | exact dch | fail) only [go_sem, Nat.reduceAdd, Nat.reduceSub, reduceIte, Nat.reduceEqDiff, Int.reduceToNat, Int.reduceBEq, Int.reduceBNe, Bool.not_true, Bool.not_false, d2, e1, e2, z1, z2, l1, q, qd, hsp, b0, b0d, b0n, b40, bq]; (try (first | (refine And.intro (fun _ => ?_) (fun h => absurd h (by decide))) | (refine And.intro (fun h => absurd h (by decide)) (fun _ => ?_)))); (repeat (with_reducible refine And.intro acl ?_)); (first | (refine hK _ _ ?_) | (refine ⟨_, rfl, hK _ _ ?_⟩) | (refine Or.inr (hK _ _ ?_)) | (refine Or.inr ⟨rfl, hK _ _ ?_⟩) | (refine ⟨_, _, Or.inl (aw.go _), (by first | exact ⟨[], (List.append_nil _).symm⟩ | exact ⟨_, rfl⟩), hK _ _ ?_⟩) | (refine ⟨_, _, Or.inl (aw.go _), hK _ _ ?_⟩) | (refine ⟨_, _, Or.inl (aw.go _).weakQ, hK _ _ ?_⟩) | (refine ⟨_, _, Or.inl (np.go _), (by first | exact ⟨[], (List.append_nil _).symm⟩ | exact ⟨_, rfl⟩), hK _ _ ?_⟩) | (refine ⟨_, _, Or.inl (np.go _), hK _ _ ?_⟩) | (refine ⟨_, _, Or.inl (np.go _).weakQ, hK _ _ ?_⟩) | (refine ⟨_, _, Or.inl (pr.go _), (by first | exact ⟨[], (List.append_nil _).symm⟩ | exact ⟨_, rfl⟩), hK _ _ ?_⟩) | (refine ⟨_, _, Or.inl (pr.go _), hK _ _ ?_⟩) | (refine ⟨_, _, Or.inl (pr.go _).weakQ, hK _ _ ?_⟩) | (refine ⟨_, _, Or.inl (pp.go _), (by first | exact ⟨[], (List.append_nil _).symm⟩ | exact ⟨_, rfl⟩), hK _ _ ?_⟩) | (refine ⟨_, _, Or.inl (pp.go _), hK _ _ ?_⟩) | (refine ⟨_, _, Or.inl (pp.go _).weakQ, hK _ _ ?_⟩) | (refine ⟨_, _, Or.inl (sp2.go _), (by first | exact ⟨[], (List.append_nil _).symm⟩ | exact ⟨_, rfl⟩), hK _ _ ?_⟩) | (refine ⟨_, _, Or.inl (sp2.go _), hK _ _ ?_⟩) | (refine ⟨_, _, Or.inl (sp2.go _).weakQ, hK _ _ ?_⟩)); clear hK K)
      | (with_reducible refine lops_nil ?_)
      | (with_reducible first | refine lavc_reg ?_ | refine lavc_seq ?_ | refine lavc_block ?_ | refine lavc_skip ?_ | refine lavc_exit ?_ | refine lavc_ret ?_ | refine lavcR_round ?_)
      | (refine lavc_cond rfl (fun _ => ?_) (fun hc => absurd hc (by decide)))
      | (refine lavc_cond rfl (fun hc => absurd hc (by decide)) (fun _ => ?_))
      | (simp only [↓reduceIte, Nat.reduceEqDiff, reduceCtorEq]))
    refine R1 tt ⟨?_⟩
    exact end0 (NR.v _) (by simp)
  · have hr2 := hr2 hc
    rw [if_neg (by rw [hc]; decide)] at hg
    have pr : PCall Tryd.prog glob 13 [.agg [ivC 3, stA s, nlA, nlA]] (.tup [stA ⟨#[]⟩, ivC 2]) := (Print_bad _ hsm 2 hg (by decide)).les ⟨nA 3 s, trivial⟩
    have sp2 : PCall Tryd.prog glob 11 [vA (parseP P2).1, .agg [ivC 5, stA ⟨#[]⟩, nlA, .vsl 1 [ivC 3, stA s, nlA, nlA] (some 1)]] (.v (.bool E)) := sp.les ⟨AvLe.refl _, nL, trivial⟩
    clear hg hr1 hE sp po nL hsL hrN
    obtain ⟨y, hy⟩ : ∃ y, parseP P2 = y := ⟨_, rfl⟩
    rw [hy] at pp sp2 hr2
    clear hy
    obtain ⟨⟨kp, tp, ns, vs⟩, e⟩ := y
    simp only at pp sp2 hr2
    unfold vA at pp sp2
    rw [Val.cells] at pp sp2
    by_cases he : e = 0
    · subst he
      have hE := hr2 rfl
      subst hE
      cases x0 <;> cases x1 <;> cases x2
      all_goals first
        | exact absurd hc (by decide)
        | (simp only [Bool.not_true, Bool.not_false] at b0n
           repeat (first
             | (with_reducible refine lops_step fun K hK => ?_; simp (disch := first | exact dch | fail) only [go_sem, Nat.reduceAdd, Nat.reduceSub, reduceIte, Nat.reduceEqDiff, Int.reduceToNat, Int.reduceBEq, Int.reduceBNe, Bool.not_true, Bool.not_false, d2, e1, e2, z1, z2, l1, q, qd, hsp, b0, b0d, b0n, b40, bq]; (try (first | (refine And.intro (fun _ => ?_) (fun h => absurd h (by decide))) | (refine And.intro (fun h => absurd h (by decide)) (fun _ => ?_)))); (repeat (with_reducible refine And.intro acl ?_)); (first | (refine hK _ _ ?_) | (refine ⟨_, rfl, hK _ _ ?_⟩) | (refine Or.inr (hK _ _ ?_)) | (refine Or.inr ⟨rfl, hK _ _ ?_⟩) | (refine ⟨_, _, Or.inl (aw.go _), (by first | exact ⟨[], (List.append_nil _).symm⟩ | exact ⟨_, rfl⟩), hK _ _ ?_⟩) | (refine ⟨_, _, Or.inl (aw.go _), hK _ _ ?_⟩) | (refine ⟨_, _, Or.inl (aw.go _).weakQ, hK _ _ ?_⟩) | (refine ⟨_, _, Or.inl (np.go _), (by first | exact ⟨[], (List.append_nil _).symm⟩ | exact ⟨_, rfl⟩), hK _ _ ?_⟩) | (refine ⟨_, _, Or.inl (np.go _), hK _ _ ?_⟩) | (refine ⟨_, _, Or.inl (np.go _).weakQ, hK _ _ ?_⟩) | (refine ⟨_, _, Or.inl (pr.go _), (by first | exact ⟨[], (List.append_nil _).symm⟩ | exact ⟨_, rfl⟩), hK _ _ ?_⟩) | (refine ⟨_, _, Or.inl (pr.go _), hK _ _ ?_⟩) | (refine ⟨_, _, Or.inl (pr.go _).weakQ, hK _ _ ?_⟩) | (refine ⟨_, _, Or.inl (pp.go _), (by first | exact ⟨[], (List.append_nil _).symm⟩ | exact ⟨_, rfl⟩), hK _ _ ?_⟩) | (refine ⟨_, _, Or.inl (pp.go _), hK _ _ ?_⟩) | (refine ⟨_, _, Or.inl (pp.go _).weakQ, hK _ _ ?_⟩) | (refine ⟨_, _, Or.inl (sp2.go _), (by first | exact ⟨[], (List.append_nil _).symm⟩ | exact ⟨_, rfl⟩), hK _ _ ?_⟩) | (refine ⟨_, _, Or.inl (sp2.go _), hK _ _ ?_⟩) | (refine ⟨_, _, Or.inl (sp2.go _).weakQ, hK _ _ ?_⟩)); clear hK K)
             | (with_reducible refine lops_nil ?_)
             | (with_reducible first | refine lavc_reg ?_ | refine lavc_seq ?_ | refine lavc_block ?_ | refine lavc_skip ?_ | refine lavc_exit ?_ | refine lavc_ret ?_ | refine lavcR_round ?_)
             | (refine lavc_cond rfl (fun _ => ?_) (fun hc => absurd hc (by decide)))
             | (refine lavc_cond rfl (fun hc => absurd hc (by decide)) (fun _ => ?_))
             | (simp only [↓reduceIte, Nat.reduceEqDiff, reduceCtorEq]))
           refine R1 tt ⟨?_⟩
           exact end0 (NR.v _) (by simp))
    · clear hr2 sp2
      have qe : ((e : Int) == 0) = false := by rw [beq_eq_false_iff_ne, ne_eq]; omega
      have qn : ((e : Int) != 0) = true := by rw [bne_iff_ne, ne_eq]; omega
      cases x0 <;> cases x1 <;> cases x2
      all_goals first
        | exact absurd hc (by decide)
        | (simp only [Bool.not_true, Bool.not_false] at b0n
           repeat (first
             | (with_reducible refine lops_step fun K hK => ?_; simp (disch := first | exact dch | fail) only [go_sem, Nat.reduceAdd, Nat.reduceSub, reduceIte, Nat.reduceEqDiff, Int.reduceToNat, Int.reduceBEq, Int.reduceBNe, Bool.not_true, Bool.not_false, d2, e1, e2, z1, z2, l1, q, qd, hsp, b0, b0d, b0n, b40, bq, qe, qn]; (try (first | (refine And.intro (fun _ => ?_) (fun h => absurd h (by decide))) | (refine And.intro (fun h => absurd h (by decide)) (fun _ => ?_)))); (repeat (with_reducible refine And.intro acl ?_)); (first | (refine hK _ _ ?_) | (refine ⟨_, rfl, hK _ _ ?_⟩) | (refine Or.inr (hK _ _ ?_)) | (refine Or.inr ⟨rfl, hK _ _ ?_⟩) | (refine ⟨_, _, Or.inl (aw.go _), (by first | exact ⟨[], (List.append_nil _).symm⟩ | exact ⟨_, rfl⟩), hK _ _ ?_⟩) | (refine ⟨_, _, Or.inl (aw.go _), hK _ _ ?_⟩) | (refine ⟨_, _, Or.inl (aw.go _).weakQ, hK _ _ ?_⟩) | (refine ⟨_, _, Or.inl (np.go _), (by first | exact ⟨[], (List.append_nil _).symm⟩ | exact ⟨_, rfl⟩), hK _ _ ?_⟩) | (refine ⟨_, _, Or.inl (np.go _), hK _ _ ?_⟩) | (refine ⟨_, _, Or.inl (np.go _).weakQ, hK _ _ ?_⟩) | (refine ⟨_, _, Or.inl (pr.go _), (by first | exact ⟨[], (List.append_nil _).symm⟩ | exact ⟨_, rfl⟩), hK _ _ ?_⟩) | (refine ⟨_, _, Or.inl (pr.go _), hK _ _ ?_⟩) | (refine ⟨_, _, Or.inl (pr.go _).weakQ, hK _ _ ?_⟩) | (refine ⟨_, _, Or.inl (pp.go _), (by first | exact ⟨[], (List.append_nil _).symm⟩ | exact ⟨_, rfl⟩), hK _ _ ?_⟩) | (refine ⟨_, _, Or.inl (pp.go _), hK _ _ ?_⟩) | (refine ⟨_, _, Or.inl (pp.go _).weakQ, hK _ _ ?_⟩)); clear hK K)
             | (with_reducible refine lops_nil ?_)
             | (with_reducible first | refine lavc_reg ?_ | refine lavc_seq ?_ | refine lavc_block ?_ | refine lavc_skip ?_ | refine lavc_exit ?_ | refine lavc_ret ?_ | refine lavcR_round ?_)
             | (refine lavc_cond rfl (fun _ => ?_) (fun hc => absurd hc (by decide)))
             | (refine lavc_cond rfl (fun hc => absurd hc (by decide)) (fun _ => ?_))
             | (simp only [↓reduceIte, Nat.reduceEqDiff, reduceCtorEq]))
           refine R1 tt ⟨?_⟩
           exact end0 (NR.v _) (by simp))
end Go.Abs.S
