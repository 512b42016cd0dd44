/- Values that were printed are read as they were: what has no values. The document's numbers: is, digits, Number. -/
import Derived.Test.YtdbpaahdonplbaaDoorJP4
import Derived.Test.YtdbpaahdonplbaaDoorJP3
import Derived.Test.YtdbpaahdonplbaaDoorJP8
namespace Go.Abs.S
open Go.Proofs
set_option linter.unusedVariables false
set_option linter.unusedSimpArgs false
set_option maxRecDepth 100000
set_option maxHeartbeats 4000000
def isBl (c : UInt8) : Bool := blanks4.contains c
theorem drop_bl (w : List UInt8) (hw : ∀ c ∈ w, isBl c = true) (c : UInt8) (x : List UInt8) (hc : isBl c = false) : (w ++ c :: x).dropWhile (blanks4.contains ·) = c :: x := by
  induction w with
  | nil =>
    rw [List.nil_append, List.dropWhile_cons]
    rw [if_neg]
    intro h
    have : isBl c = true := h
    rw [hc] at this
    cases this
  | cons a w ih =>
    have ha : (blanks4.contains a) = true := hw a List.mem_cons_self
    rw [List.cons_append, List.dropWhile_cons, if_pos ha]
    exact ih fun b hb => hw b (List.mem_cons_of_mem _ hb)
theorem blanks_go (w : List UInt8) (hw : ∀ c ∈ w, isBl c = true) (c : UInt8) (x : List UInt8) (hc : isBl c = false) : blanksP (w ++ c :: x, 0) = (c :: x, 0) := by
  unfold blanksP
  rw [drop_bl w hw c x hc]
theorem blanks_end (w : List UInt8) (hw : ∀ c ∈ w, isBl c = true) : blanksP (w, 0) = ([], 0) := by
  unfold blanksP
  have : w.dropWhile (blanks4.contains ·) = [] := by
    induction w with
    | nil => rfl
    | cons a w ih =>
      have ha : (blanks4.contains a) = true := hw a List.mem_cons_self
      rw [List.dropWhile_cons, if_pos ha]
      exact ih fun b hb => hw b (List.mem_cons_of_mem _ hb)
  rw [this]
/-- A value's first round, behind the blanks. -/
theorem value_go (n : Nat) (d : Int) (hd : d ≤ 8) (w : List UInt8) (hw : ∀ c ∈ w, isBl c = true) (c : UInt8) (x : List UInt8) (hc : isBl c = false) : valueP (n + 1) d (w ++ c :: x, 0) =
    if nullB.isPrefixOf (c :: x) = true then (.mk 0 (bs []) [] [], takeP nullB (c :: x, 0))
    else if falseB.isPrefixOf (c :: x) = true then (.mk 1 (bs []) [] [], takeP falseB (c :: x, 0))
    else if trueB.isPrefixOf (c :: x) = true then (.mk 2 (bs []) [] [], takeP trueB (c :: x, 0))
    else if [34].isPrefixOf (c :: x) = true then (.mk 4 (bs (textR (takeP [34] (c :: x, 0))).1) [] [], (textR (takeP [34] (c :: x, 0))).2)
    else if [91].isPrefixOf (c :: x) = true then partsR (valueP n (d + 1)) 5 [93] (takeP [91] (c :: x, 0))
    else if [123].isPrefixOf (c :: x) = true then partsR (valueP n (d + 1)) 6 [125] (takeP [123] (c :: x, 0))
    else if nuL (c :: x) = 0 ∨ 40 < nuL (c :: x) then (default, giveP 2 (c :: x, 0))
    else (.mk 3 (bs ((c :: x).take (nuL (c :: x)))) [] [], ((c :: x).drop (nuL (c :: x)), 0)) := by
  rw [valueP]
  simp only [blanks_go w hw c x hc]
  rw [if_neg (fun h : 8 < d ∧ _ => by omega)]
theorem pre_one (a c : UInt8) (x : List UInt8) : [a].isPrefixOf (c :: x) = (a == c) := by simp [List.isPrefixOf]
theorem pre_head (a : UInt8) (l : List UInt8) (c : UInt8) (x : List UInt8) (h : a ≠ c) : (a :: l).isPrefixOf (c :: x) = false := by
  simp [List.isPrefixOf, h]
theorem take_one (a : UInt8) (x : List UInt8) : takeP [a] (a :: x, 0) = (x, 0) := by
  unfold takeP
  simp [List.isPrefixOf]
theorem value_text (n : Nat) (d : Int) (hd : d ≤ 8) (w : List UInt8) (hw : ∀ c ∈ w, isBl c = true) (l r : List UInt8) (h : rightL l = true) : valueP (n + 1) d (w ++ (quoL l ++ r), 0) = (.mk 4 (bs l) [] [], (r, 0)) := by
  have e : quoL l ++ r = 34 :: (quoB l ++ 34 :: r) := by unfold quoL; simp
  rw [e, value_go n d hd w hw 34 _ (by decide)]
  rw [if_neg (by rw [nullB, pre_head _ _ _ _ (by decide)]; decide), if_neg (by rw [falseB, pre_head _ _ _ _ (by decide)]; decide), if_neg (by rw [trueB, pre_head _ _ _ _ (by decide)]; decide), if_pos (by rw [pre_one]; decide), take_one, textR_quo l r h]
/-- A row that does not go on with a number. -/
def stopC : List UInt8 → Prop
  | [] => True
  | c :: _ => isD c = false ∧ c.toNat ≠ 45 ∧ c.toNat ≠ 43 ∧ c.toNat ≠ 46 ∧ c.toNat ≠ 101 ∧ c.toNat ≠ 69
theorem dg_app : ∀ (x r : List UInt8), stopC r → dgL (x ++ r) = dgL x
  | [], [], _ => rfl
  | [], c :: r, h => by
    show dgL (c :: r) = 0
    rw [dgL, if_neg (by rw [h.1]; decide)]
  | c :: x, r, h => by
    rw [List.cons_append, dgL, dgL, dg_app x r h]
theorem at_app (s r : List UInt8) (k : Nat) (hk : k ≤ s.length) (h : stopC r) (v : Nat) (hv : v = 45 ∨ v = 43 ∨ v = 46 ∨ v = 101 ∨ v = 69) : (k < (s ++ r).length ∧ ((s ++ r).getD k 0).toNat = v) ↔ (k < s.length ∧ (s.getD k 0).toNat = v) := by
  by_cases hl : k < s.length
  · rw [List.getD_eq_getElem?_getD, List.getElem?_append_left hl, ← List.getD_eq_getElem?_getD, List.length_append]
    exact ⟨fun g => ⟨hl, g.2⟩, fun g => ⟨by omega, g.2⟩⟩
  · obtain rfl : k = s.length := by omega
    refine ⟨fun g => ?_, fun g => absurd g.1 hl⟩
    exfalso
    cases r with
    | nil =>
      have := g.1
      rw [List.append_nil] at this
      omega
    | cons c r =>
      have g2 := g.2
      rw [List.getD_eq_getElem?_getD, List.getElem?_append_right (Nat.le_refl _), Nat.sub_self] at g2
      have g3 : c.toNat = v := g2
      obtain ⟨_, h1, h2, h3, h4, h5⟩ := h
      omega
theorem drop_app (s r : List UInt8) (k : Nat) (hk : k ≤ s.length) : (s ++ r).drop k = s.drop k ++ r := by
  rw [List.drop_append, show k - s.length = 0 by omega]
  rfl
theorem sgL_at (l : List UInt8) : sgL l = if 0 < l.length ∧ (l.getD 0 0).toNat = 45 then 1 else 0 := by
  unfold sgL
  cases l with
  | nil => rfl
  | cons c r =>
    rw [pre_one]
    by_cases h : c.toNat = 45
    · have : c = 45 := UInt8.toNat_inj.1 h
      subst this
      rw [if_pos (by decide), if_pos ⟨by simp, h⟩]
    · rw [if_neg (fun g => h (by rw [beq_iff_eq] at g; rw [← g]; rfl)), if_neg (fun g => h g.2)]
theorem sg_app (s r : List UInt8) (h : stopC r) : sgL (s ++ r) = sgL s := by
  rw [sgL_at, sgL_at]
  have := at_app s r 0 (Nat.zero_le _) h 45 (.inl rfl)
  by_cases g : 0 < s.length ∧ (s.getD 0 0).toNat = 45
  · rw [if_pos g, if_pos (this.2 g)]
  · rw [if_neg g, if_neg (fun x => g (this.1 x))]
theorem dgd_app (s r : List UInt8) (k : Nat) (hk : k ≤ s.length) (h : stopC r) : dgL ((s ++ r).drop k) = dgL (s.drop k) := by
  rw [drop_app s r k hk, dg_app _ _ h]
theorem int_app (s r : List UInt8) (a : Nat) (ha : a ≤ s.length) (h : stopC r) : intL (s ++ r) a = intL s a := by
  unfold intL
  rw [dgd_app s r a ha h]
  by_cases g : 1 < dgL (s.drop a)
  · have hl : a < s.length := by
      have := dgL_le (s.drop a)
      rw [List.length_drop] at this
      omega
    rw [List.getD_eq_getElem?_getD, List.getElem?_append_left hl, ← List.getD_eq_getElem?_getD]
  · rw [if_neg (fun x => g x.1), if_neg (fun x => g x.1)]
theorem frac_app (s r : List UInt8) (a : Nat) (ha : a ≤ s.length) (h : stopC r) : fracL (s ++ r) a = fracL s a := by
  unfold fracL
  have e := at_app s r a ha h 46 (by decide)
  by_cases g : a < s.length ∧ (s.getD a 0).toNat = 46
  · rw [if_pos g, if_pos (e.2 g), dgd_app s r (a + 1) (by omega) h]
  · rw [if_neg g, if_neg (fun x => g (e.1 x))]
theorem at_app2 (s r : List UInt8) (k : Nat) (hk : k ≤ s.length) (h : stopC r) (v w : Nat) (hv : v = 45 ∨ v = 43 ∨ v = 46 ∨ v = 101 ∨ v = 69) (hw : w = 45 ∨ w = 43 ∨ w = 46 ∨ w = 101 ∨ w = 69) : (k < (s ++ r).length ∧ (((s ++ r).getD k 0).toNat = v ∨ ((s ++ r).getD k 0).toNat = w)) ↔ (k < s.length ∧ ((s.getD k 0).toNat = v ∨ (s.getD k 0).toNat = w)) := by
  have e1 := at_app s r k hk h v hv
  have e2 := at_app s r k hk h w hw
  constructor
  · rintro ⟨a, b | b⟩
    · exact ⟨(e1.1 ⟨a, b⟩).1, .inl (e1.1 ⟨a, b⟩).2⟩
    · exact ⟨(e2.1 ⟨a, b⟩).1, .inr (e2.1 ⟨a, b⟩).2⟩
  · rintro ⟨a, b | b⟩
    · exact ⟨(e1.2 ⟨a, b⟩).1, .inl (e1.2 ⟨a, b⟩).2⟩
    · exact ⟨(e2.2 ⟨a, b⟩).1, .inr (e2.2 ⟨a, b⟩).2⟩
theorem powS_app (s r : List UInt8) (k : Nat) (hk : k ≤ s.length) (h : stopC r) : powS (s ++ r) k = powS s k := by
  unfold powS
  have e := at_app2 s r k hk h 43 45 (by decide) (by decide)
  by_cases g : k < s.length ∧ ((s.getD k 0).toNat = 43 ∨ (s.getD k 0).toNat = 45)
  · rw [if_pos g, if_pos (e.2 g)]
  · rw [if_neg g, if_neg (fun x => g (e.1 x))]
theorem pow_app (s r : List UInt8) (a : Nat) (ha : a ≤ s.length) (h : stopC r) : powL (s ++ r) a = powL s a := by
  unfold powL
  have e := at_app2 s r a ha h 101 69 (by decide) (by decide)
  by_cases g : a < s.length ∧ ((s.getD a 0).toNat = 101 ∨ (s.getD a 0).toNat = 69)
  · rw [if_pos g, if_pos (e.2 g), powS_app s r (a + 1) (by omega) h, dgd_app s r _ (powS_le s (a + 1) (by omega)) h]
  · rw [if_neg g, if_neg (fun x => g (e.1 x))]
theorem nu_app (s r : List UInt8) (h : stopC r) : nuL (s ++ r) = nuL s := by
  unfold nuL
  have h1 := sgL_le s
  have h2 := intL_le s (sgL s) h1
  rw [sg_app s r h, int_app s r _ h1 h, frac_app s r _ h2 h]
  cases hf : fracL s (sgL s + intL s (sgL s)) with
  | none => rfl
  | some c =>
    rw [Option.bind_some, Option.bind_some, pow_app s r c (fracL_le s _ c h2 hf) h]
/-- A number's own length is found again in what was taken. -/
theorem at_take (L : List UInt8) (n k : Nat) (hk : k ≤ n) (hn : n ≤ L.length) (v : Nat) : (k < (L.take n).length ∧ ((L.take n).getD k 0).toNat = v) ↔ (k < n ∧ (L.getD k 0).toNat = v) := by
  rw [List.length_take, show min n L.length = n by omega]
  by_cases h : k < n
  · rw [List.getD_eq_getElem?_getD, List.getElem?_take, if_pos h, ← List.getD_eq_getElem?_getD]
  · exact ⟨fun g => absurd g.1 h, fun g => absurd g.1 h⟩
theorem dg_take : ∀ (l : List UInt8) (m : Nat), dgL (l.take m) = min (dgL l) m
  | [], m => by rw [List.take_nil]; exact (Nat.zero_min m).symm
  | c :: l, 0 => by rw [List.take_zero, Nat.min_zero]; rfl
  | c :: l, m + 1 => by
    rw [List.take_succ_cons, dgL, dgL, dg_take l m]
    split
    · omega
    · omega
theorem dgd_take (L : List UInt8) (n k : Nat) : dgL ((L.take n).drop k) = min (dgL (L.drop k)) (n - k) := by
  rw [List.drop_take, dg_take]
theorem frac_ge (l : List UInt8) (a c : Nat) (h : fracL l a = some c) : a ≤ c := by
  unfold fracL at h
  split at h
  · split at h
    · cases h
    · injection h
      omega
  · injection h
    omega
theorem powS_ge (l : List UInt8) (a : Nat) : a ≤ powS l a := by
  unfold powS
  split <;> omega
theorem pow_ge (l : List UInt8) (a c : Nat) (h : powL l a = some c) : a ≤ c := by
  have := powS_ge l (a + 1)
  unfold powL at h
  split at h
  · split at h
    · cases h
    · injection h
      omega
  · injection h
    omega
theorem nu_take (L : List UInt8) (n : Nat) (h : nuL L = n) (h0 : n ≠ 0) : nuL (L.take n) = n := by
  have s1 := sgL_le L
  have i1 := intL_le L (sgL L) s1
  have hd := h
  unfold nuL at hd
  by_cases z : intL L (sgL L) = 0
  · rw [if_pos z] at hd
    exact absurd hd.symm h0
  rw [if_neg z] at hd
  cases hf : fracL L (sgL L + intL L (sgL L)) with
  | none =>
    rw [hf] at hd
    exact absurd hd.symm h0
  | some c =>
    rw [hf, Option.bind_some] at hd
    cases hp : powL L c with
    | none =>
      rw [hp] at hd
      exact absurd hd.symm h0
    | some e =>
      rw [hp] at hd
      have hen : e = n := hd
      subst hen
      have c1 := fracL_le L _ c i1 hf
      have e1 := powL_le L c e c1 hp
      have bc := frac_ge L _ c hf
      have ce := pow_ge L c e hp
      have hs : sgL (L.take e) = sgL L := by
        rw [sgL_at, sgL_at]
        have g := at_take L e 0 (Nat.zero_le _) e1 45
        by_cases q : 0 < L.length ∧ (L.getD 0 0).toNat = 45
        · rw [if_pos q, if_pos (g.2 ⟨by omega, q.2⟩)]
        · rw [if_neg q, if_neg (fun x => q ⟨by omega, (g.1 x).2⟩)]
      obtain ⟨a, ha⟩ : ∃ a, sgL L = a := ⟨_, rfl⟩
      rw [ha] at hs z i1 hf bc s1
      have hi : intL (L.take e) a = intL L a := by
        unfold intL at z bc i1 hf ⊢
        rw [dgd_take]
        by_cases q : 1 < dgL (L.drop a) ∧ (L.getD a 0).toNat = 48
        · rw [if_pos q] at z bc i1 hf ⊢
          by_cases q2 : 1 < min (dgL (L.drop a)) (e - a)
          · have g := at_take L e a (by omega) e1 48
            rw [if_pos ⟨q2, ((g.2 ⟨by omega, q.2⟩)).2⟩]
          · rw [if_neg (fun x => q2 x.1)]
            omega
        · rw [if_neg q] at z bc i1 hf ⊢
          have hm : min (dgL (L.drop a)) (e - a) = dgL (L.drop a) := by omega
          rw [hm]
          by_cases q2 : 1 < dgL (L.drop a)
          · have g := at_take L e a (by omega) e1 48
            rw [if_neg (fun x => q ⟨q2, (g.1 ⟨by rw [List.length_take]; omega, x.2⟩).2⟩)]
          · rw [if_neg (fun x => q2 x.1)]
      obtain ⟨b, hb⟩ : ∃ b, a + intL L a = b := ⟨_, rfl⟩
      rw [hb] at i1 hf bc
      have hfr : fracL (L.take e) b = some c := by
        unfold fracL at hf ⊢
        have g := at_take L e b (by omega) e1 46
        by_cases q : b < L.length ∧ (L.getD b 0).toNat = 46
        · rw [if_pos q] at hf
          by_cases q2 : dgL (L.drop (b + 1)) = 0
          · rw [if_pos q2] at hf
            cases hf
          · rw [if_neg q2] at hf
            injection hf with hf
            rw [if_pos (g.2 ⟨by omega, q.2⟩), dgd_take, show min (dgL (L.drop (b + 1))) (e - (b + 1)) = dgL (L.drop (b + 1)) by omega, if_neg q2, hf]
        · rw [if_neg q] at hf
          injection hf with hf
          subst hf
          rw [if_neg (fun x => q ⟨by omega, (g.1 x).2⟩)]
      have hpw : powL (L.take e) c = some e := by
        unfold powL at hp ⊢
        have g1 := at_take L e c ce e1 101
        have g2 := at_take L e c ce e1 69
        by_cases q : c < L.length ∧ ((L.getD c 0).toNat = 101 ∨ (L.getD c 0).toNat = 69)
        · rw [if_pos q] at hp
          by_cases q2 : dgL (L.drop (powS L (c + 1))) = 0
          · rw [if_pos q2] at hp
            cases hp
          · rw [if_neg q2] at hp
            injection hp with hp
            have hge := powS_ge L (c + 1)
            have hk : powS (L.take e) (c + 1) = powS L (c + 1) := by
              have k1 := at_take L e (c + 1) (by omega) e1 43
              have k2 := at_take L e (c + 1) (by omega) e1 45
              have hlt : c + 1 < L.length := by
                have := dgL_le (L.drop (powS L (c + 1)))
                rw [List.length_drop] at this
                omega
              unfold powS at hp hge q2 ⊢
              by_cases q3 : c + 1 < L.length ∧ ((L.getD (c + 1) 0).toNat = 43 ∨ (L.getD (c + 1) 0).toNat = 45)
              · rw [if_pos q3] at hp hge q2 ⊢
                rcases q3.2 with x | x
                · have y := k1.2 ⟨by omega, x⟩
                  rw [if_pos ⟨y.1, .inl y.2⟩]
                · have y := k2.2 ⟨by omega, x⟩
                  rw [if_pos ⟨y.1, .inr y.2⟩]
              · rw [if_neg q3]
                rw [if_neg]
                rintro ⟨y, x | x⟩
                · exact q3 ⟨hlt, .inl (k1.1 ⟨y, x⟩).2⟩
                · exact q3 ⟨hlt, .inr (k2.1 ⟨y, x⟩).2⟩
            rw [hk, dgd_take, show min (dgL (L.drop (powS L (c + 1)))) (e - powS L (c + 1)) = dgL (L.drop (powS L (c + 1))) by omega, if_neg q2, hp, if_pos]
            rcases q.2 with x | x
            · have y := g1.2 ⟨by omega, x⟩
              exact ⟨y.1, .inl y.2⟩
            · have y := g2.2 ⟨by omega, x⟩
              exact ⟨y.1, .inr y.2⟩
        · rw [if_neg q] at hp
          injection hp with hp
          subst hp
          rw [if_neg]
          rintro ⟨y, x⟩
          rw [List.length_take] at y
          omega
      unfold nuL
      rw [hs, hi, if_neg z, hb, hfr, Option.bind_some, hpw]
      rfl
theorem parse_of (x : List UInt8) (v : Val) (r : List UInt8) (h : valueP 10 1 (x, 0) = (v, (r, 0))) (hr : ∀ c ∈ r, isBl c = true) : parseP x = (v, 0) := by
  unfold parseP
  simp only [h, blanks_end r hr]
  rw [if_neg (by simp)]
  try rfl
end Go.Abs.S
namespace Go.Abs.S
attribute [local go_sem] lguard aopO aop aenv toAV tput aLoad aStore vcells aBin aNilI aUn aAlloc aBox aBuild aBSlice afill aConv isIntT aappZ aCap aArr aMM aMake aSlice bnd3 bnd aFldAddr aFld aIdxAddr aIdx aExt aLen aCopy aEq0 bAV aUb aapp aappQ agh acont List.getD_cons_zero List.getD_cons_succ List.set_cons_zero List.set_cons_succ List.getElem?_cons_zero List.getElem?_cons_succ List.length_cons List.length_nil List.map_cons List.map_nil ints_length if_true if_false Bool.false_eq_true true_and and_true eq_self ne_eq not_false_eq_true not_true_eq_false beq_self_eq_true Nat.zero_add Nat.add_zero Nat.mul_one Nat.zero_mul Int.toNat_natCast List.toList_toArray List.all_cons List.all_nil AV.one Value.oneCell' Bool.and_true Bool.true_and forall_const true_implies false_implies implies_true Option.map_some Option.map_none Option.isSome_some Option.isSome_none imp_self rdP_flat rdP_row splice_one ints_set ints_get List.append_nil List.cons_append List.nil_append List.getElem?_toArray List.drop_zero ints_drop ints_take List.take_of_length_le splice_all ints_one Option.some.injEq Option.getD_some List.length_replicate zArr List.map_replicate rep_ints splice_intsR List.length_set List.length_append List.flatten_replicate_singleton rep_slice rep_string rep_bool rep_iface List.replicate_zero if_pos if_neg List.mapM_cons List.mapM_nil Option.pure_def Option.bind_eq_bind Option.bind_some Bool.true_eq_false Bool.not_false Bool.not_true get_concat set_concat
open Go.Proofs
set_option linter.unusedVariables false
set_option linter.unusedSimpArgs false
set_option maxRecDepth 100000
set_option maxHeartbeats 4000000
/-- Does a byte stand at a place? -/
def isB (l : List UInt8) (a : Nat) (c : UInt8) : Bool := decide (a < l.length) && (l.getD a 0 == c)
theorem take1 (l : List UInt8) (a : Nat) (h : a < l.length) : (l.drop a).take (a + 1 - a) = [l.getD a 0] := by
  rw [List.drop_eq_getElem_cons h, List.getD_eq_getElem?_getD, List.getElem?_eq_getElem h, show a + 1 - a = 1 by omega]
  rfl
theorem is1_p (l : List UInt8) (a : Nat) (hl : l.length ≤ 9223372036854775000) (ha : a ≤ l.length) (c : UInt8) : PCall Tryd.prog glob 34 [.v (.string (bs l)), .v (.int .i64 a), .v (.string (bs [c]))] (.v (.bool (isB l a c))) := by
  refine PCall.of ctx.nr nrs (NR.v _) ?_
  refine lcall34 (by simp) 0 (Nat.le_refl _) ?_
  unfold lc34
  refine I1 tt ⟨?_⟩
  have e1 := i64n ((a : Int) + ((1 : Nat) : Int)) (a + 1) (by omega) (by omega)
  unfold isB
  by_cases h : a < l.length
  · have d1 : decide (((a + 1 : Nat) : Int) ≤ l.length) = true := by rw [decide_eq_true_eq]; omega
    have t1 := take1 l a h
    rw [decide_eq_true h, Bool.true_and]
    have q : ([l.getD a 0] == [c]) = (l.getD a 0 == c) := by simp
    refine G1 F4 (an e1 (an d1 (an t1 (an q tt)))) tt tt tt ⟨?_⟩
    refine R1 tt ⟨?_⟩
    exact end0 (NR.v _) rfl
  · have d1 : decide (((a + 1 : Nat) : Int) ≤ l.length) = false := by rw [decide_eq_false_iff_not]; omega
    rw [decide_eq_false h, Bool.false_and]
    refine G1 F4 (an e1 (an d1 tt)) tt tt tt ⟨?_⟩
    refine R1 tt ⟨?_⟩
    exact end0 (NR.v _) rfl
theorem rdig_p (l : List UInt8) (hl : l.length ≤ 9223372036854775000) (a : Nat) (ha : a ≤ l.length) : PCall Tryd.prog glob 35 [.v (.string (bs l)), .v (.int .i64 a)] (.v (.int .i64 ((a + dgL (l.drop a) : Nat) : Int))) := by
  refine PCall.of ctx.nr nrs (NR.v _) ?_
  refine lcall35 (by simp) 0 (Nat.le_refl _) ?_
  unfold lc35
  refine I1 tt ⟨?_⟩
  obtain ⟨V, hV⟩ : ∃ V, a + dgL (l.drop a) = V := ⟨_, rfl⟩
  rw [hV]
  refine G1 F4 tt tt tt tt ⟨?_⟩
  refine lavc_loopM ms35_0 (fun m (k : Nat) => m + k = l.length ∧ k + dgL (l.drop k) = V) (fun k => [(1, .v (.int .i64 k))]) (fun _ => []) (l.length - a) a ⟨by omega, hV⟩ ?_ rfl ?_
  · refine ALe.mk ?_
    simp only [ms35_0, putAll, blank, List.foldl_cons, List.foldl_nil, List.set_cons_succ, List.set_cons_zero, List.cons_append, List.nil_append, ALe0, true_or, or_true, and_true, true_and, eq_self, reduceCtorEq, false_or]
    try rfl
  rintro m k ⟨hk, hi⟩
  try unfold ms35_0
  refine M1 tt ⟨?_⟩
  by_cases hkl : k < l.length
  · rw [dgL_step l k hkl] at hi
    obtain ⟨c, hc⟩ : ∃ c, l.getD k 0 = c := ⟨_, rfl⟩
    rw [hc] at hi
    have d1 : decide ((k : Int) < l.length) = true := by rw [decide_eq_true_eq]; omega
    have e3 := i64n ((k : Int) + 1) (k + 1) (by omega) (by omega)
    obtain ⟨a, ha⟩ : ∃ a, decide ((c.toNat : Int) ≥ 48) = a := ⟨_, rfl⟩
    obtain ⟨b, hb⟩ : ∃ b, decide ((c.toNat : Int) ≤ 57) = b := ⟨_, rfl⟩
    have hD : isD c = (a && b) := by rw [← ha, ← hb]; rfl
    rw [hD] at hi
    cases a <;> cases b
    · rw [if_neg (by decide)] at hi
      refine G1 F4 (an d1 (an hc (an ha (an hb tt)))) tt tt tt ⟨?_⟩
      refine R1 tt ⟨?_⟩
      exact end0 (NR.v _) (by rw [← hi]; rfl)
    · rw [if_neg (by decide)] at hi
      refine G1 F4 (an d1 (an hc (an ha (an hb tt)))) tt tt tt ⟨?_⟩
      refine R1 tt ⟨?_⟩
      exact end0 (NR.v _) (by rw [← hi]; rfl)
    · rw [if_neg (by decide)] at hi
      refine G1 F4 (an d1 (an hc (an ha (an hb tt)))) tt tt tt ⟨?_⟩
      refine R1 tt ⟨?_⟩
      exact end0 (NR.v _) (by rw [← hi]; rfl)
    · rw [if_pos (by decide)] at hi
      refine G1 F4 (an d1 (an hc (an ha (an hb (an e3 tt))))) tt tt tt ⟨?_⟩
      refine ⟨m - 1, k + 1, by omega, ⟨by omega, by omega⟩, ?_, (by first | rfl | trivial)⟩
      try unfold ms35_0
      exact A0 tt
  · have hk2 : k = l.length := by omega
    rw [hk2, List.drop_length, dgL] at hi
    have d1 : decide ((k : Int) < l.length) = false := by rw [decide_eq_false_iff_not]; omega
    refine G1 F4 (an d1 tt) tt tt tt ⟨?_⟩
    refine R1 tt ⟨?_⟩
    exact end0 (NR.v _) (by rw [← hi, hk2]; rfl)
theorem isB_iff (l : List UInt8) (a : Nat) (c : UInt8) : isB l a c = true ↔ a < l.length ∧ (l.getD a 0).toNat = c.toNat := by
  unfold isB
  rw [Bool.and_eq_true, decide_eq_true_iff, beq_iff_eq]
  exact ⟨fun h => ⟨h.1, by rw [h.2]⟩, fun h => ⟨h.1, UInt8.toNat_inj.1 h.2⟩⟩
theorem sgL_is (l : List UInt8) : sgL l = if isB l 0 45 = true then 1 else 0 := by
  unfold sgL
  cases l with
  | nil => rfl
  | cons c r =>
    have e : ([45] : List UInt8).isPrefixOf (c :: r) = isB (c :: r) 0 45 := by
      rw [Bool.eq_iff_iff, isB_iff]
      simp only [List.isPrefixOf, Bool.and_true, beq_iff_eq, List.length_cons, Nat.zero_lt_succ, true_and, List.getD_cons_zero]
      exact ⟨fun h => by rw [← h], fun h => (UInt8.toNat_inj.1 h).symm⟩
    rw [e]
theorem intL_is (l : List UInt8) (a : Nat) : intL l a = if isB l a 48 = true then 1 else dgL (l.drop a) := by
  unfold intL
  by_cases h : isB l a 48 = true
  · rw [if_pos h]
    obtain ⟨h1, h2⟩ := (isB_iff l a 48).1 h
    have e : dgL (l.drop a) = dgL (l.drop (a + 1)) + 1 := by
      rw [dgL_step l a h1, if_pos]
      unfold isD
      rw [h2]
      rfl
    by_cases h3 : 1 < dgL (l.drop a)
    · rw [if_pos ⟨h3, h2⟩]
    · rw [if_neg (fun h => h3 h.1)]
      omega
  · rw [if_neg h]
    by_cases h3 : 1 < dgL (l.drop a) ∧ (l.getD a 0).toNat = 48
    · exfalso
      refine h ((isB_iff l a 48).2 ⟨?_, h3.2⟩)
      have := dgL_le (l.drop a)
      rw [List.length_drop] at this
      omega
    · rw [if_neg h3]
theorem fracL_is (l : List UInt8) (a : Nat) : fracL l a = if isB l a 46 = true then (if dgL (l.drop (a + 1)) = 0 then none else some (a + 1 + dgL (l.drop (a + 1)))) else some a := by
  unfold fracL
  by_cases h : isB l a 46 = true
  · rw [if_pos h, if_pos (show a < l.length ∧ (l.getD a 0).toNat = 46 from (isB_iff l a 46).1 h)]
    split
    · rfl
    · rw [Nat.add_assoc]
  · rw [if_neg h, if_neg (show ¬ (a < l.length ∧ (l.getD a 0).toNat = 46) from fun g => h ((isB_iff l a 46).2 g))]
theorem powS_is (l : List UInt8) (k : Nat) : powS l k = if (isB l k 43 || isB l k 45) = true then k + 1 else k := by
  unfold powS
  by_cases h : (isB l k 43 || isB l k 45) = true
  · rw [if_pos h, if_pos]
    rcases Bool.or_eq_true _ _ ▸ h with h | h
    · obtain ⟨h1, h2⟩ := (isB_iff l k 43).1 h
      exact ⟨h1, .inl h2⟩
    · obtain ⟨h1, h2⟩ := (isB_iff l k 45).1 h
      exact ⟨h1, .inr h2⟩
  · rw [if_neg h, if_neg]
    rintro ⟨h1, h2 | h2⟩
    · exact h (by rw [(isB_iff l k 43).2 ⟨h1, h2⟩]; rfl)
    · exact h (by rw [(isB_iff l k 45).2 ⟨h1, h2⟩, Bool.or_true])
theorem powL_is (l : List UInt8) (a : Nat) : powL l a = if (isB l a 101 || isB l a 69) = true then (if dgL (l.drop (powS l (a + 1))) = 0 then none else some (powS l (a + 1) + dgL (l.drop (powS l (a + 1))))) else some a := by
  unfold powL
  by_cases h : (isB l a 101 || isB l a 69) = true
  · rw [if_pos h, if_pos]
    rcases Bool.or_eq_true _ _ ▸ h with h | h
    · obtain ⟨h1, h2⟩ := (isB_iff l a 101).1 h
      exact ⟨h1, .inl h2⟩
    · obtain ⟨h1, h2⟩ := (isB_iff l a 69).1 h
      exact ⟨h1, .inr h2⟩
  · rw [if_neg h, if_neg]
    rintro ⟨h1, h2 | h2⟩
    · exact h (by rw [(isB_iff l a 101).2 ⟨h1, h2⟩]; rfl)
    · exact h (by rw [(isB_iff l a 69).2 ⟨h1, h2⟩, Bool.or_true])
theorem rnum_p (l : List UInt8) (hl : l.length ≤ 9223372036854770000) : PCall Tryd.prog glob 21 [.v (.string (bs l)), .v (.int .i64 0)] (.v (.int .i64 (nuL l))) := by
  refine PCall.of ctx.nr nrs (NR.v _) ?_
  refine lcall21 (by simp) 0 (Nat.le_refl _) ?_
  unfold lc21
  refine I1 tt ⟨?_⟩
  have ip : ∀ (a : Nat) (c : UInt8), a ≤ l.length → PCall Tryd.prog glob 34 [.v (.string (bs l)), .v (.int .i64 a), .v (.string ⟨#[c]⟩)] (.v (.bool (isB l a c))) := fun a c h => is1_p l a (by omega) h c
  have dp : ∀ a : Nat, a ≤ l.length → PCall Tryd.prog glob 35 [.v (.string (bs l)), .v (.int .i64 a)] (.v (.int .i64 ((a + dgL (l.drop a) : Nat) : Int))) := fun a h => rdig_p l (by omega) a h
  have hs2 := sgL_le l
  have hs3 := sgL_is l
  have p0 : PCall Tryd.prog glob 34 [.v (.string (bs l)), .v (.int .i64 0), .v (.string ⟨#[45]⟩)] (.v (.bool (isB l 0 45))) := ip 0 45 (Nat.zero_le _)
  obtain ⟨sg, hsg⟩ : ∃ b, isB l 0 45 = b := ⟨_, rfl⟩
  rw [hsg] at p0 hs3
  refine G1 F1 tt (an p0.go tt) tt tt ⟨?_⟩
  refine lavc_join mj21_0 (fun (_ : Unit) => True) (fun _ => [(5, .v (.int .i64 (sgL l)))]) (fun _ => []) ?_ ?_
  · cases sg
    · rw [hs3]
      refine G1 F4 tt tt tt tt ⟨?_⟩
      refine ⟨(), trivial, ?_, (by first | rfl | trivial)⟩
      try unfold mj21_0
      refine A1 tt ⟨?_⟩
      rfl
    · rw [hs3]
      refine G1 F4 tt tt tt tt ⟨?_⟩
      refine ⟨(), trivial, ?_, (by first | rfl | trivial)⟩
      try unfold mj21_0
      refine A1 tt ⟨?_⟩
      rfl
  intro _ _
  try unfold mj21_0
  refine M1 tt ⟨?_⟩
  unfold nuL
  obtain ⟨a, ha⟩ : ∃ a, sgL l = a := ⟨_, rfl⟩
  rw [ha] at hs2 ⊢
  clear hs3 hsg p0 ha
  have i1 := intL_le l a hs2
  have hi := intL_is l a
  have i2 := dgd_le l a hs2
  have pz := ip a 48 hs2
  have dz := dp a hs2
  obtain ⟨z, hz⟩ : ∃ b, isB l a 48 = b := ⟨_, rfl⟩
  rw [hz] at pz hi
  obtain ⟨n, hn⟩ : ∃ n, dgL (l.drop a) = n := ⟨_, rfl⟩
  rw [hn] at dz hi i2
  refine G1 F1 tt (an pz.go tt) tt tt ⟨?_⟩
  refine lavc_join mj21_1 (fun (_ : Unit) => intL l a ≠ 0) (fun _ => [(5, .v (.int .i64 ((a + intL l a : Nat) : Int)))]) (fun _ => []) ?_ ?_
  · cases z
    · rw [if_neg (by decide)] at hi
      rw [hi] at i1 ⊢
      by_cases h0 : n = 0
      · subst h0
        have q : (((a + 0 : Nat) : Int) == (a : Int)) = true := by rw [beq_iff_eq]; omega
        refine G1 F4 (an q tt) (an dz.go tt) tt tt ⟨?_⟩
        refine R1 tt ⟨?_⟩
        exact end0 (NR.v _) rfl
      · have q : (((a + n : Nat) : Int) == (a : Int)) = false := by rw [beq_eq_false_iff_ne, ne_eq]; omega
        refine G1 F4 (an q tt) (an dz.go tt) tt tt ⟨?_⟩
        refine ⟨(), h0, ?_, (by first | rfl | trivial)⟩
        refine ALe.mk ?_
        simp only [mj21_1, putAll, blank, List.foldl_cons, List.foldl_nil, List.set_cons_succ, List.set_cons_zero, List.cons_append, List.nil_append, ALe0, true_or, or_true, and_true, true_and, eq_self, reduceCtorEq, false_or]
        try rfl
    · rw [if_pos rfl] at hi
      rw [hi] at i1 ⊢
      have e1 := i64n ((a : Int) + 1) (a + 1) (by omega) (by omega)
      refine G1 F4 (an e1 tt) tt tt tt ⟨?_⟩
      refine ⟨(), by decide, ?_, (by first | rfl | trivial)⟩
      refine ALe.mk ?_
      simp only [mj21_1, putAll, blank, List.foldl_cons, List.foldl_nil, List.set_cons_succ, List.set_cons_zero, List.cons_append, List.nil_append, ALe0, true_or, or_true, and_true, true_and, eq_self, reduceCtorEq, false_or]
      try rfl
  intro _ h0
  try unfold mj21_1
  refine M1 tt ⟨?_⟩
  rw [if_neg h0]
  obtain ⟨b, hb⟩ : ∃ b, a + intL l a = b := ⟨_, rfl⟩
  rw [hb] at i1 ⊢
  clear hi hz hn dz pz i2 h0 hb hs2
  have pd := ip b 46 i1
  have hf := fracL_is l b
  obtain ⟨d, hd⟩ : ∃ x, isB l b 46 = x := ⟨_, rfl⟩
  rw [hd] at pd hf
  refine G1 F1 tt (an pd.go tt) tt tt ⟨?_⟩
  refine lavc_join mj21_3 (fun (x : Nat) => fracL l b = some x) (fun x => [(5, .v (.int .i64 x))]) (fun _ => []) ?_ ?_
  · cases d
    · rw [if_neg (by decide)] at hf
      refine G1 F4 tt tt tt tt ⟨?_⟩
      refine ⟨_, hf, ?_, (by first | rfl | trivial)⟩
      refine ALe.mk ?_
      simp only [mj21_3, putAll, blank, List.foldl_cons, List.foldl_nil, List.set_cons_succ, List.set_cons_zero, List.cons_append, List.nil_append, ALe0, true_or, or_true, and_true, true_and, eq_self, reduceCtorEq, false_or]
      try rfl
    · rw [if_pos rfl] at hf
      have hbl := ((isB_iff l b 46).1 hd).1
      have e1 := i64n ((b : Int) + 1) (b + 1) (by omega) (by omega)
      have dq := dp (b + 1) hbl
      obtain ⟨n2, hn2⟩ : ∃ n, dgL (l.drop (b + 1)) = n := ⟨_, rfl⟩
      rw [hn2] at dq hf
      by_cases h20 : n2 = 0
      · subst h20
        rw [if_pos rfl] at hf
        rw [hf]
        have q : (((b + 1 + 0 : Nat) : Int) == ((b + 1 : Nat) : Int)) = true := beq_self_eq_true ((b + 1 : Nat) : Int)
        refine G1 F4 (an e1 (an q tt)) (an dq.go tt) tt tt ⟨?_⟩
        refine R1 tt ⟨?_⟩
        exact end0 (NR.v _) rfl
      · rw [if_neg h20] at hf
        have q : (((b + 1 + n2 : Nat) : Int) == ((b + 1 : Nat) : Int)) = false := by rw [beq_eq_false_iff_ne, ne_eq]; omega
        refine G1 F4 (an e1 (an q tt)) (an dq.go tt) tt tt ⟨?_⟩
        refine ⟨_, hf, ?_, (by first | rfl | trivial)⟩
        refine ALe.mk ?_
        simp only [mj21_3, putAll, blank, List.foldl_cons, List.foldl_nil, List.set_cons_succ, List.set_cons_zero, List.cons_append, List.nil_append, ALe0, true_or, or_true, and_true, true_and, eq_self, reduceCtorEq, false_or]
        try rfl
  intro x hx
  try unfold mj21_3
  refine M1 tt ⟨?_⟩
  have i3 := fracL_le l b x i1 hx
  rw [hx]
  clear hf hd pd hx
  show lavc _ _ _ _ _ _
  rw [Option.bind_some]
  have hw := powL_is l x
  have pe := ip x 101 i3
  have pE := ip x 69 i3
  obtain ⟨e, he⟩ : ∃ y, isB l x 101 = y := ⟨_, rfl⟩
  obtain ⟨g, hg⟩ : ∃ y, isB l x 69 = y := ⟨_, rfl⟩
  rw [he] at pe hw
  rw [hg] at pE hw
  by_cases heg : (e || g) = true
  · have hxl : x < l.length := by
      rcases Bool.or_eq_true _ _ ▸ heg with h | h
      · rw [h] at he
        exact ((isB_iff l x 101).1 he).1
      · rw [h] at hg
        exact ((isB_iff l x 69).1 hg).1
    rw [if_pos heg] at hw
    have e1 := i64n ((x : Int) + 1) (x + 1) (by omega) (by omega)
    obtain ⟨k, hk⟩ : ∃ k, x + 1 = k := ⟨_, rfl⟩
    rw [hk] at hw e1
    have hkl : k ≤ l.length := by omega
    have hps := powS_is l k
    have hpl := powS_le l k hkl
    have pp := ip k 43 hkl
    have pm := ip k 45 hkl
    obtain ⟨u, hu⟩ : ∃ y, isB l k 43 = y := ⟨_, rfl⟩
    obtain ⟨v, hv⟩ : ∃ y, isB l k 45 = y := ⟨_, rfl⟩
    rw [hu] at pp hps
    rw [hv] at pm hps
    obtain ⟨y, hy⟩ : ∃ y, powS l k = y := ⟨_, rfl⟩
    rw [hy] at hps hpl hw
    have dq := dp y hpl
    obtain ⟨n2, hn2⟩ : ∃ n, dgL (l.drop y) = n := ⟨_, rfl⟩
    rw [hn2] at dq hw
    rw [hw]
    have e2 := i64n ((k : Int) + 1) (k + 1) (by omega) (by omega)
    have q : (((y + n2 : Nat) : Int) == (y : Int)) = decide (n2 = 0) := by
      rw [Bool.eq_iff_iff, beq_iff_eq, decide_eq_true_iff]
      omega
    clear he hg hu hv hw hn2 hy
    by_cases h20 : n2 = 0
    · rw [decide_eq_true h20] at q
      rw [if_pos h20]
      cases e <;> cases g <;> cases u <;> cases v
      all_goals first
        | exact absurd heg (by decide)
        | (simp only [Bool.or_true, Bool.true_or, Bool.or_false, Bool.false_eq_true, if_true, if_false] at hps
           subst hps
           refine G1 F4 (an e1 (an e2 (an q tt))) (an pe.go (an pE.go (an pp.go (an pm.go (an dq.go tt))))) tt tt ⟨?_⟩
           refine R1 tt ⟨?_⟩
           exact end0 (NR.v _) rfl)
    · rw [decide_eq_false h20] at q
      rw [if_neg h20]
      cases e <;> cases g <;> cases u <;> cases v
      all_goals first
        | exact absurd heg (by decide)
        | (simp only [Bool.or_true, Bool.true_or, Bool.or_false, Bool.false_eq_true, if_true, if_false] at hps
           subst hps
           refine G1 F4 (an e1 (an e2 (an q tt))) (an pe.go (an pE.go (an pp.go (an pm.go (an dq.go tt))))) tt tt ⟨?_⟩
           refine R1 tt ⟨?_⟩
           exact end0 (NR.v _) rfl)
  · rw [if_neg heg] at hw
    rw [hw]
    cases e <;> cases g
    · refine G1 F4 tt (an pe.go (an pE.go tt)) tt tt ⟨?_⟩
      refine R1 tt ⟨?_⟩
      exact end0 (NR.v _) rfl
    all_goals exact absurd rfl heg
end Go.Abs.S
