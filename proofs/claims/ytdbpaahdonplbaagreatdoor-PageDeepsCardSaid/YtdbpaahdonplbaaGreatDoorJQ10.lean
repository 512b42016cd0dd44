/- PageDeeps, the law, whole. -/
import Derived.Test.YtdbpaahdonplbaaGreatDoorJQ4
import Derived.Test.YtdbpaahdonplbaaGreatDoorJQ5
import Derived.Test.YtdbpaahdonplbaaGreatDoorJQ3
import Derived.Test.YtdbpaahdonplbaaGreatDoorJQ8
import Derived.Test.YtdbpaahdonplbaaGreatDoorJQ9
import Derived.Test.YtdbpaahdonplbaaGreatDoorJQ7
namespace Go.Abs.S
open Go.Proofs
set_option linter.unusedVariables false
set_option linter.unusedSimpArgs false
set_option maxRecDepth 100000
set_option maxHeartbeats 4000000
def isBl (c : UInt8) : Bool := blanks4.contains c
theorem drop_bl (w : List UInt8) (hw : ∀ c ∈ w, isBl c = true) (c : UInt8) (x : List UInt8) (hc : isBl c = false) : (w ++ c :: x).dropWhile (blanks4.contains ·) = c :: x := by
  induction w with
  | nil =>
    rw [List.nil_append, List.dropWhile_cons]
    rw [if_neg]
    intro h
    have : isBl c = true := h
    rw [hc] at this
    cases this
  | cons a w ih =>
    have ha : (blanks4.contains a) = true := hw a List.mem_cons_self
    rw [List.cons_append, List.dropWhile_cons, if_pos ha]
    exact ih fun b hb => hw b (List.mem_cons_of_mem _ hb)
theorem blanks_go (w : List UInt8) (hw : ∀ c ∈ w, isBl c = true) (c : UInt8) (x : List UInt8) (hc : isBl c = false) : blanksP (w ++ c :: x, 0) = (c :: x, 0) := by
  unfold blanksP
  rw [drop_bl w hw c x hc]
theorem blanks_end (w : List UInt8) (hw : ∀ c ∈ w, isBl c = true) : blanksP (w, 0) = ([], 0) := by
  unfold blanksP
  have : w.dropWhile (blanks4.contains ·) = [] := by
    induction w with
    | nil => rfl
    | cons a w ih =>
      have ha : (blanks4.contains a) = true := hw a List.mem_cons_self
      rw [List.dropWhile_cons, if_pos ha]
      exact ih fun b hb => hw b (List.mem_cons_of_mem _ hb)
  rw [this]
/-- A value's first round, behind the blanks. -/
theorem value_go (n : Nat) (d : Int) (hd : d ≤ 8) (w : List UInt8) (hw : ∀ c ∈ w, isBl c = true) (c : UInt8) (x : List UInt8) (hc : isBl c = false) : valueP (n + 1) d (w ++ c :: x, 0) =
    if nullB.isPrefixOf (c :: x) = true then (.mk 0 (bs []) [] [], takeP nullB (c :: x, 0))
    else if falseB.isPrefixOf (c :: x) = true then (.mk 1 (bs []) [] [], takeP falseB (c :: x, 0))
    else if trueB.isPrefixOf (c :: x) = true then (.mk 2 (bs []) [] [], takeP trueB (c :: x, 0))
    else if [34].isPrefixOf (c :: x) = true then (.mk 4 (bs (textR (takeP [34] (c :: x, 0))).1) [] [], (textR (takeP [34] (c :: x, 0))).2)
    else if [91].isPrefixOf (c :: x) = true then partsR (valueP n (d + 1)) 5 [93] (takeP [91] (c :: x, 0))
    else if [123].isPrefixOf (c :: x) = true then partsR (valueP n (d + 1)) 6 [125] (takeP [123] (c :: x, 0))
    else if nuL (c :: x) = 0 ∨ 40 < nuL (c :: x) then (default, giveP 2 (c :: x, 0))
    else (.mk 3 (bs ((c :: x).take (nuL (c :: x)))) [] [], ((c :: x).drop (nuL (c :: x)), 0)) := by
  rw [valueP]
  simp only [blanks_go w hw c x hc]
  rw [if_neg (fun h : 8 < d ∧ _ => by omega)]
theorem pre_one (a c : UInt8) (x : List UInt8) : [a].isPrefixOf (c :: x) = (a == c) := by simp [List.isPrefixOf]
theorem pre_head (a : UInt8) (l : List UInt8) (c : UInt8) (x : List UInt8) (h : a ≠ c) : (a :: l).isPrefixOf (c :: x) = false := by
  simp [List.isPrefixOf, h]
theorem take_one (a : UInt8) (x : List UInt8) : takeP [a] (a :: x, 0) = (x, 0) := by
  unfold takeP
  simp [List.isPrefixOf]
theorem take_pre (p x : List UInt8) : takeP p (p ++ x, 0) = (x, 0) := by
  unfold takeP
  rw [if_pos (by rw [List.isPrefixOf_iff_prefix]; exact List.prefix_append p x), List.drop_left]
theorem value_text (n : Nat) (d : Int) (hd : d ≤ 8) (w : List UInt8) (hw : ∀ c ∈ w, isBl c = true) (l r : List UInt8) (h : rightL l = true) : valueP (n + 1) d (w ++ (quoL l ++ r), 0) = (.mk 4 (bs l) [] [], (r, 0)) := by
  have e : quoL l ++ r = 34 :: (quoB l ++ 34 :: r) := by unfold quoL; simp
  rw [e, value_go n d hd w hw 34 _ (by decide)]
  rw [if_neg (by rw [nullB, pre_head _ _ _ _ (by decide)]; decide), if_neg (by rw [falseB, pre_head _ _ _ _ (by decide)]; decide), if_neg (by rw [trueB, pre_head _ _ _ _ (by decide)]; decide), if_pos (by rw [pre_one]; decide), take_one, textR_quo l r h]
theorem value_null (n : Nat) (d : Int) (hd : d ≤ 8) (w : List UInt8) (hw : ∀ c ∈ w, isBl c = true) (r : List UInt8) : valueP (n + 1) d (w ++ (nullB ++ r), 0) = (.mk 0 (bs []) [] [], (r, 0)) := by
  have h := value_go n d hd w hw 110 ([117, 108, 108] ++ r) (by decide)
  rw [show w ++ (nullB ++ r) = w ++ 110 :: ([117, 108, 108] ++ r) from rfl, h, if_pos (by simp [nullB, List.isPrefixOf])]
  have := take_pre nullB r
  exact congrArg _ this
theorem value_false (n : Nat) (d : Int) (hd : d ≤ 8) (w : List UInt8) (hw : ∀ c ∈ w, isBl c = true) (r : List UInt8) : valueP (n + 1) d (w ++ (falseB ++ r), 0) = (.mk 1 (bs []) [] [], (r, 0)) := by
  have h := value_go n d hd w hw 102 ([97, 108, 115, 101] ++ r) (by decide)
  rw [show w ++ (falseB ++ r) = w ++ 102 :: ([97, 108, 115, 101] ++ r) from rfl, h, if_neg (by rw [nullB, pre_head _ _ _ _ (by decide)]; decide), if_pos (by simp [falseB, List.isPrefixOf])]
  have := take_pre falseB r
  exact congrArg _ this
theorem value_true (n : Nat) (d : Int) (hd : d ≤ 8) (w : List UInt8) (hw : ∀ c ∈ w, isBl c = true) (r : List UInt8) : valueP (n + 1) d (w ++ (trueB ++ r), 0) = (.mk 2 (bs []) [] [], (r, 0)) := by
  have h := value_go n d hd w hw 116 ([114, 117, 101] ++ r) (by decide)
  rw [show w ++ (trueB ++ r) = w ++ 116 :: ([114, 117, 101] ++ r) from rfl, h, if_neg (by rw [nullB, pre_head _ _ _ _ (by decide)]; decide), if_neg (by rw [falseB, pre_head _ _ _ _ (by decide)]; decide), if_pos (by simp [trueB, List.isPrefixOf])]
  have := take_pre trueB r
  exact congrArg _ this
/-- A row that does not go on with a number. -/
def stopC : List UInt8 → Prop
  | [] => True
  | c :: _ => isD c = false ∧ c.toNat ≠ 45 ∧ c.toNat ≠ 43 ∧ c.toNat ≠ 46 ∧ c.toNat ≠ 101 ∧ c.toNat ≠ 69
theorem dg_app : ∀ (x r : List UInt8), stopC r → dgL (x ++ r) = dgL x
  | [], [], _ => rfl
  | [], c :: r, h => by
    show dgL (c :: r) = 0
    rw [dgL, if_neg (by rw [h.1]; decide)]
  | c :: x, r, h => by
    rw [List.cons_append, dgL, dgL, dg_app x r h]
theorem at_app (s r : List UInt8) (k : Nat) (hk : k ≤ s.length) (h : stopC r) (v : Nat) (hv : v = 45 ∨ v = 43 ∨ v = 46 ∨ v = 101 ∨ v = 69) : (k < (s ++ r).length ∧ ((s ++ r).getD k 0).toNat = v) ↔ (k < s.length ∧ (s.getD k 0).toNat = v) := by
  by_cases hl : k < s.length
  · rw [List.getD_eq_getElem?_getD, List.getElem?_append_left hl, ← List.getD_eq_getElem?_getD, List.length_append]
    exact ⟨fun g => ⟨hl, g.2⟩, fun g => ⟨by omega, g.2⟩⟩
  · obtain rfl : k = s.length := by omega
    refine ⟨fun g => ?_, fun g => absurd g.1 hl⟩
    exfalso
    cases r with
    | nil =>
      have := g.1
      rw [List.append_nil] at this
      omega
    | cons c r =>
      have g2 := g.2
      rw [List.getD_eq_getElem?_getD, List.getElem?_append_right (Nat.le_refl _), Nat.sub_self] at g2
      have g3 : c.toNat = v := g2
      obtain ⟨_, h1, h2, h3, h4, h5⟩ := h
      omega
theorem drop_app (s r : List UInt8) (k : Nat) (hk : k ≤ s.length) : (s ++ r).drop k = s.drop k ++ r := by
  rw [List.drop_append, show k - s.length = 0 by omega]
  rfl
theorem sgL_at (l : List UInt8) : sgL l = if 0 < l.length ∧ (l.getD 0 0).toNat = 45 then 1 else 0 := by
  unfold sgL
  cases l with
  | nil => rfl
  | cons c r =>
    rw [pre_one]
    by_cases h : c.toNat = 45
    · have : c = 45 := UInt8.toNat_inj.1 h
      subst this
      rw [if_pos (by decide), if_pos ⟨by simp, h⟩]
    · rw [if_neg (fun g => h (by rw [beq_iff_eq] at g; rw [← g]; rfl)), if_neg (fun g => h g.2)]
theorem sg_app (s r : List UInt8) (h : stopC r) : sgL (s ++ r) = sgL s := by
  rw [sgL_at, sgL_at]
  have := at_app s r 0 (Nat.zero_le _) h 45 (.inl rfl)
  by_cases g : 0 < s.length ∧ (s.getD 0 0).toNat = 45
  · rw [if_pos g, if_pos (this.2 g)]
  · rw [if_neg g, if_neg (fun x => g (this.1 x))]
theorem dgd_app (s r : List UInt8) (k : Nat) (hk : k ≤ s.length) (h : stopC r) : dgL ((s ++ r).drop k) = dgL (s.drop k) := by
  rw [drop_app s r k hk, dg_app _ _ h]
theorem int_app (s r : List UInt8) (a : Nat) (ha : a ≤ s.length) (h : stopC r) : intL (s ++ r) a = intL s a := by
  unfold intL
  rw [dgd_app s r a ha h]
  by_cases g : 1 < dgL (s.drop a)
  · have hl : a < s.length := by
      have := dgL_le (s.drop a)
      rw [List.length_drop] at this
      omega
    rw [List.getD_eq_getElem?_getD, List.getElem?_append_left hl, ← List.getD_eq_getElem?_getD]
  · rw [if_neg (fun x => g x.1), if_neg (fun x => g x.1)]
theorem frac_app (s r : List UInt8) (a : Nat) (ha : a ≤ s.length) (h : stopC r) : fracL (s ++ r) a = fracL s a := by
  unfold fracL
  have e := at_app s r a ha h 46 (by decide)
  by_cases g : a < s.length ∧ (s.getD a 0).toNat = 46
  · rw [if_pos g, if_pos (e.2 g), dgd_app s r (a + 1) (by omega) h]
  · rw [if_neg g, if_neg (fun x => g (e.1 x))]
theorem at_app2 (s r : List UInt8) (k : Nat) (hk : k ≤ s.length) (h : stopC r) (v w : Nat) (hv : v = 45 ∨ v = 43 ∨ v = 46 ∨ v = 101 ∨ v = 69) (hw : w = 45 ∨ w = 43 ∨ w = 46 ∨ w = 101 ∨ w = 69) : (k < (s ++ r).length ∧ (((s ++ r).getD k 0).toNat = v ∨ ((s ++ r).getD k 0).toNat = w)) ↔ (k < s.length ∧ ((s.getD k 0).toNat = v ∨ (s.getD k 0).toNat = w)) := by
  have e1 := at_app s r k hk h v hv
  have e2 := at_app s r k hk h w hw
  constructor
  · rintro ⟨a, b | b⟩
    · exact ⟨(e1.1 ⟨a, b⟩).1, .inl (e1.1 ⟨a, b⟩).2⟩
    · exact ⟨(e2.1 ⟨a, b⟩).1, .inr (e2.1 ⟨a, b⟩).2⟩
  · rintro ⟨a, b | b⟩
    · exact ⟨(e1.2 ⟨a, b⟩).1, .inl (e1.2 ⟨a, b⟩).2⟩
    · exact ⟨(e2.2 ⟨a, b⟩).1, .inr (e2.2 ⟨a, b⟩).2⟩
theorem powS_app (s r : List UInt8) (k : Nat) (hk : k ≤ s.length) (h : stopC r) : powS (s ++ r) k = powS s k := by
  unfold powS
  have e := at_app2 s r k hk h 43 45 (by decide) (by decide)
  by_cases g : k < s.length ∧ ((s.getD k 0).toNat = 43 ∨ (s.getD k 0).toNat = 45)
  · rw [if_pos g, if_pos (e.2 g)]
  · rw [if_neg g, if_neg (fun x => g (e.1 x))]
theorem pow_app (s r : List UInt8) (a : Nat) (ha : a ≤ s.length) (h : stopC r) : powL (s ++ r) a = powL s a := by
  unfold powL
  have e := at_app2 s r a ha h 101 69 (by decide) (by decide)
  by_cases g : a < s.length ∧ ((s.getD a 0).toNat = 101 ∨ (s.getD a 0).toNat = 69)
  · rw [if_pos g, if_pos (e.2 g), powS_app s r (a + 1) (by omega) h, dgd_app s r _ (powS_le s (a + 1) (by omega)) h]
  · rw [if_neg g, if_neg (fun x => g (e.1 x))]
theorem nu_app (s r : List UInt8) (h : stopC r) : nuL (s ++ r) = nuL s := by
  unfold nuL
  have h1 := sgL_le s
  have h2 := intL_le s (sgL s) h1
  rw [sg_app s r h, int_app s r _ h1 h, frac_app s r _ h2 h]
  cases hf : fracL s (sgL s + intL s (sgL s)) with
  | none => rfl
  | some c =>
    rw [Option.bind_some, Option.bind_some, pow_app s r c (fracL_le s _ c h2 hf) h]
theorem parse_of (x : List UInt8) (v : Val) (r : List UInt8) (h : valueP 10 1 (x, 0) = (v, (r, 0))) (hr : ∀ c ∈ r, isBl c = true) : parseP x = (v, 0) := by
  unfold parseP
  simp only [h, blanks_end r hr]
  rw [if_neg (by simp)]
  try rfl
theorem nu_head (c : UInt8) (x : List UInt8) (h : nuL (c :: x) ≠ 0) : c.toNat = 45 ∨ isD c = true := by
  by_cases h45 : c.toNat = 45
  · exact .inl h45
  · right
    cases hd : isD c with
    | true => rfl
    | false =>
      exfalso
      apply h
      have hs : sgL (c :: x) = 0 := by rw [sgL_at, if_neg (fun g => h45 g.2)]
      have hg : dgL (c :: x) = 0 := by rw [dgL, if_neg (by rw [hd]; decide)]
      unfold nuL
      rw [hs]
      have hi : intL (c :: x) 0 = 0 := by
        unfold intL
        rw [List.drop_zero, hg, if_neg (fun g => absurd g.1 (by decide))]
      rw [hi, if_pos rfl]
theorem isD_nat (c : UInt8) (h : isD c = true) : 48 ≤ c.toNat ∧ c.toNat ≤ 57 := by
  unfold isD at h
  simp only [Bool.and_eq_true, decide_eq_true_eq] at h
  omega
theorem ne_of_nat {a b : UInt8} (h : a.toNat ≠ b.toNat) : a ≠ b := fun e => h (by rw [e])
theorem bl_num (c : UInt8) (h : c.toNat = 45 ∨ isD c = true) : isBl c = false ∧ (c.toNat = 45 ∨ (48 ≤ c.toNat ∧ c.toNat ≤ 57)) := by
  have h2 : c.toNat = 45 ∨ (48 ≤ c.toNat ∧ c.toNat ≤ 57) := by
    rcases h with h | h
    · exact .inl h
    · exact .inr (isD_nat c h)
  refine ⟨?_, h2⟩
  have key : ∀ n : Nat, n < 256 → (n = 45 ∨ (48 ≤ n ∧ n ≤ 57)) → isBl (UInt8.ofNat n) = false := by decide +kernel
  have := key c.toNat c.toNat_lt h2
  rwa [UInt8.ofNat_toNat] at this
theorem value_num (n : Nat) (d : Int) (hd : d ≤ 8) (w : List UInt8) (hw : ∀ c ∈ w, isBl c = true) (l r : List UInt8) (hn : nuL l = l.length) (h0 : l ≠ []) (h40 : l.length ≤ 40) (hr : stopC r) : valueP (n + 1) d (w ++ (l ++ r), 0) = (.mk 3 (bs l) [] [], (r, 0)) := by
  obtain ⟨c, x, rfl⟩ : ∃ c x, l = c :: x := by
    cases l with
    | nil => exact absurd rfl h0
    | cons c x => exact ⟨c, x, rfl⟩
  have hz : nuL (c :: x) ≠ 0 := by rw [hn]; simp
  obtain ⟨hb, hc⟩ := bl_num c (nu_head c x hz)
  have hne : ∀ a : UInt8, a.toNat ≠ 45 → ¬ (48 ≤ a.toNat ∧ a.toNat ≤ 57) → a ≠ c := fun a h1 h2 => ne_of_nat (by rcases hc with h | h <;> omega)
  have hna := nu_app (c :: x) r hr
  rw [hn, List.cons_append] at hna
  rw [List.cons_append, value_go n d hd w hw c _ hb]
  rw [if_neg (by rw [nullB, pre_head _ _ _ _ (hne 110 (by decide) (by decide))]; decide), if_neg (by rw [falseB, pre_head _ _ _ _ (hne 102 (by decide) (by decide))]; decide), if_neg (by rw [trueB, pre_head _ _ _ _ (hne 116 (by decide) (by decide))]; decide),
    if_neg (by rw [pre_head _ _ _ _ (hne 34 (by decide) (by decide))]; decide), if_neg (by rw [pre_head _ _ _ _ (hne 91 (by decide) (by decide))]; decide), if_neg (by rw [pre_head _ _ _ _ (hne 123 (by decide) (by decide))]; decide), hna, if_neg (by rw [List.length_cons] at h40 ⊢; omega)]
  rw [← List.cons_append, List.take_left, List.drop_left]
theorem parts_one (V : St → Val × St) (c : UInt8) (x r : List UInt8) (v : Val) (hb : isBl c = false) (hc : c ≠ 93) (hV : V (c :: x, 0) = (v, (93 :: r, 0))) : partsR V 5 [93] (c :: x, 0) = (.mk 5 (bs []) [] [v], (r, 0)) := by
  have hb0 := blanks_go [] (fun _ h => absurd h List.not_mem_nil) c x hb
  have hb1 := blanks_go [] (fun _ h => absurd h List.not_mem_nil) 93 r (by decide)
  rw [List.nil_append] at hb0 hb1
  unfold partsR
  rw [hb0, if_neg (by rw [pre_head _ _ _ _ (fun h => hc h.symm)]; decide)]
  rw [partsP]
  rw [if_neg (fun h : (0 : Int) ≠ 0 => h rfl)]
  simp only [List.length_nil, show ¬ 64 ≤ 0 by decide, if_false, show ¬ ((5 : Int) = 6) by decide, hV, hb1]
  rw [if_pos (by rw [pre_one]; decide), take_one]
  rfl
/-- A value that has no values and may be, is read as it was printed. -/
theorem value_leaf (v : Val) (e : Int) (hg : goodV v e = 0) (hk : ∀ k t ns vs, v = .mk k t ns vs → k < 5) (n : Nat) (d : Int) (hd : d ≤ 8) (w : List UInt8) (hw : ∀ c ∈ w, isBl c = true) (r : List UInt8) (hr : stopC r) : valueP (n + 1) d (w ++ (prV v ++ r), 0) = (v, (r, 0)) := by
  obtain ⟨k, t, ns, vs⟩ := v
  have hk := hk k t ns vs rfl
  obtain ⟨h1, h2, h3, h4, h5⟩ := good_at hg
  obtain ⟨k0, k6, _⟩ := form_kinds h2
  have tz : t.size = 0 → t = bs [] := fun h => by
    have h0 := size0 t
    rw [stA_beq, decide_eq_true h, decide_eq_true_eq] at h0
    exact h0
  have nz : ns.length = 0 → ns = [] := List.eq_nil_of_length_eq_zero
  have vz : vs.length = 0 → vs = [] := List.eq_nil_of_length_eq_zero
  rw [formV] at h2
  rw [prV]
  by_cases c0 : k = 0
  · rw [if_pos (.inl c0)] at h2
    simp only [Bool.and_eq_true, decide_eq_true_eq] at h2
    rw [if_pos c0, tz h2.1.1, nz h2.1.2, vz h2.2, c0]
    exact value_null n d hd w hw r
  by_cases c1 : k = 1
  · rw [if_pos (.inr (.inl c1))] at h2
    simp only [Bool.and_eq_true, decide_eq_true_eq] at h2
    rw [if_neg c0, if_pos c1, tz h2.1.1, nz h2.1.2, vz h2.2, c1]
    exact value_false n d hd w hw r
  by_cases c2 : k = 2
  · rw [if_pos (.inr (.inr c2))] at h2
    simp only [Bool.and_eq_true, decide_eq_true_eq] at h2
    rw [if_neg c0, if_neg c1, if_pos c2, tz h2.1.1, nz h2.1.2, vz h2.2, c2]
    exact value_true n d hd w hw r
  rw [if_neg (by omega)] at h2
  rw [if_neg c0, if_neg c1, if_neg c2]
  by_cases c3 : k = 3
  · rw [if_pos c3] at h2
    simp only [Bool.and_eq_true, decide_eq_true_eq, Bool.not_eq_true', decide_eq_false_iff_not] at h2
    obtain ⟨⟨⟨⟨a1, a2⟩, a3⟩, a4⟩, a5⟩ := h2
    have hl : (bl t).length = t.size := Array.length_toList
    rw [if_pos c3, nz a1, vz a2, c3]
    have := value_num n d hd w hw (bl t) r (by omega) (fun h => by rw [h] at hl; exact a3 hl.symm) (by omega) hr
    rwa [show bs (bl t) = t from bs_bl t] at this
  have c4 : k = 4 := by omega
  rw [if_neg c3, if_pos c4] at h2
  simp only [Bool.and_eq_true, decide_eq_true_eq] at h2
  obtain ⟨⟨a1, a2⟩, a3⟩ := h2
  have hv : validP t = rightL (bl t) := by
    have h := valid_right (bl t)
    rwa [show bs (bl t) = t from bs_bl t] at h
  rw [if_neg c3, if_pos c4, nz a1, vz a2, c4]
  have := value_text n d hd w hw (bl t) r (by rw [← hv]; exact a3)
  rwa [show bs (bl t) = t from bs_bl t] at this
/-- What a value's text begins with. -/
def headOk (l : List UInt8) : Prop := ∃ c x, l = c :: x ∧ isBl c = false ∧ c ≠ 93 ∧ c ≠ 125
theorem head_leaf (v : Val) (e : Int) (hg : goodV v e = 0) (hk : ∀ k t ns vs, v = .mk k t ns vs → k < 5) : headOk (prV v) := by
  obtain ⟨k, t, ns, vs⟩ := v
  have hk := hk k t ns vs rfl
  obtain ⟨h1, h2, h3, h4, h5⟩ := good_at hg
  obtain ⟨k0, k6, _⟩ := form_kinds h2
  rw [formV] at h2
  rw [prV]
  by_cases c0 : k = 0
  · rw [if_pos c0]
    exact ⟨110, _, rfl, by decide, by decide, by decide⟩
  by_cases c1 : k = 1
  · rw [if_neg c0, if_pos c1]
    exact ⟨102, _, rfl, by decide, by decide, by decide⟩
  by_cases c2 : k = 2
  · rw [if_neg c0, if_neg c1, if_pos c2]
    exact ⟨116, _, rfl, by decide, by decide, by decide⟩
  rw [if_neg (by omega)] at h2
  rw [if_neg c0, if_neg c1, if_neg c2]
  by_cases c3 : k = 3
  · rw [if_pos c3] at h2
    simp only [Bool.and_eq_true, decide_eq_true_eq, Bool.not_eq_true', decide_eq_false_iff_not] at h2
    obtain ⟨⟨⟨⟨a1, a2⟩, a3⟩, a4⟩, a5⟩ := h2
    have hl : (bl t).length = t.size := Array.length_toList
    rw [if_pos c3]
    cases hb : bl t with
    | nil =>
      rw [hb] at hl
      exact absurd hl.symm a3
    | cons c x =>
      rw [hb] at a5
      obtain ⟨b1, b2⟩ := bl_num c (nu_head c x (by omega))
      refine ⟨c, x, rfl, b1, ne_of_nat ?_, ne_of_nat ?_⟩
      · have : (93 : UInt8).toNat = 93 := rfl
        omega
      · have : (125 : UInt8).toNat = 125 := rfl
        omega
  · rw [if_neg c3, if_pos (by omega)]
    exact ⟨34, _, rfl, by decide, by decide, by decide⟩
def wrap (b : Bool) (v : Val) : Val := if b = true then .mk 6 ⟨#[]⟩ [bs [97]] [v] else .mk 5 ⟨#[]⟩ [] [v]
def nest (b : Bool) : Nat → Val → Val
  | 0, v => v
  | j + 1, v => wrap b (nest b j v)
theorem wrap_good (b : Bool) (v : Val) (d : Int) : goodV (wrap b v) d = if 8 < d then 9 else goodV v (d + 1) := by
  have hz : ∀ x : Int, (if x = 0 then (0 : Int) else x) = x := fun x => by split <;> omega
  unfold wrap
  cases b with
  | true =>
    rw [if_pos rfl, goodV]
    by_cases h8 : 8 < d
    · rw [if_pos h8, if_pos h8]
    have hf : formV (.mk 6 ⟨#[]⟩ [bs [97]] [v]) = true := by
      rw [formV, if_neg (by decide), if_neg (by decide), if_neg (by decide), if_neg (by decide), if_pos rfl]
      have : validP (bs [97]) = true := by
        rw [valid_right]
        decide +kernel
      simp [this]
      rfl
    rw [if_neg h8, if_neg h8, hf, if_neg (by decide), if_neg (by simp), if_neg (by decide +kernel), goodL, goodL, hz]
  | false =>
    rw [if_neg (by decide), goodV]
    by_cases h8 : 8 < d
    · rw [if_pos h8, if_pos h8]
    have hf : formV (.mk 5 ⟨#[]⟩ [] [v]) = true := by
      rw [formV, if_neg (by decide), if_neg (by decide), if_neg (by decide), if_pos rfl]
      rfl
    rw [if_neg h8, if_neg h8, hf, if_neg (by decide), if_neg (by simp), if_neg (by decide +kernel), goodL, goodL, hz]
theorem leaf_good (v : Val) (hg : goodV v 1 = 0) (hk : ∀ k t ns vs, v = .mk k t ns vs → k < 5) (d : Int) : goodV v d = if 8 < d then 9 else 0 := by
  obtain ⟨k, t, ns, vs⟩ := v
  have hk := hk k t ns vs rfl
  obtain ⟨h1, h2, h3, h4, h5⟩ := good_at hg
  have hv : vs = [] := by
    obtain ⟨k0, _, _⟩ := form_kinds h2
    rw [formV] at h2
    by_cases c1 : k = 0 ∨ k = 1 ∨ k = 2
    · rw [if_pos c1] at h2
      simp only [Bool.and_eq_true, decide_eq_true_eq] at h2
      exact List.eq_nil_of_length_eq_zero h2.2
    rw [if_neg c1] at h2
    by_cases c3 : k = 3
    · rw [if_pos c3] at h2
      simp only [Bool.and_eq_true, decide_eq_true_eq] at h2
      exact List.eq_nil_of_length_eq_zero h2.1.1.1.2
    · rw [if_neg c3, if_pos (by omega)] at h2
      simp only [Bool.and_eq_true, decide_eq_true_eq] at h2
      exact List.eq_nil_of_length_eq_zero h2.1.2
  subst hv
  rw [goodV]
  by_cases h8 : 8 < d
  · rw [if_pos h8, if_pos h8]
  · rw [if_neg h8, if_neg h8, h2, h4, if_neg (show ¬ true = false by decide), if_neg (show ¬ 64 < ([] : List Val).length by decide), if_neg (show ¬ false = true by decide), goodL]
theorem nest_good (b : Bool) (v : Val) (hg : goodV v 1 = 0) (hk : ∀ k t ns vs, v = .mk k t ns vs → k < 5) : ∀ (j : Nat) (d : Int), 1 ≤ d → d ≤ 9 → goodV (nest b j v) d = if 8 < d + j then 9 else 0
  | 0, d, _, _ => by
    rw [nest, leaf_good v hg hk]
    simp
  | j + 1, d, h1, h9 => by
    rw [nest, wrap_good]
    by_cases h8 : 8 < d
    · rw [if_pos h8, if_pos (by omega)]
    · rw [if_neg h8, nest_good b v hg hk j (d + 1) (by omega) (by omega)]
      by_cases h : 8 < d + 1 + (j : Int)
      · rw [if_pos h, if_pos (by omega)]
      · rw [if_neg h, if_neg (by omega)]
theorem wrap_pr (b : Bool) (v : Val) : prV (wrap b v) = if b = true then 123 :: ((quoL [97] ++ ([58] ++ prV v)) ++ [125]) else 91 :: (prV v ++ [93]) := by
  unfold wrap
  cases b with
  | true =>
    rw [if_pos rfl, if_pos rfl, prV, if_neg (by decide), if_neg (by decide), if_neg (by decide), if_neg (by decide), if_neg (by decide), if_pos rfl, prL, prL]
    simp [bs]
  | false =>
    rw [if_neg (by decide), if_neg (by decide), prV, if_neg (by decide), if_neg (by decide), if_neg (by decide), if_neg (by decide), if_neg (by decide), if_neg (by decide), prL, prL]
    simp
theorem head_nest (b : Bool) (v : Val) (h : headOk (prV v)) : ∀ j, headOk (prV (nest b j v))
  | 0 => h
  | j + 1 => by
    rw [nest, wrap_pr]
    cases b with
    | true =>
      rw [if_pos rfl]
      exact ⟨123, _, rfl, by decide, by decide, by decide⟩
    | false =>
      rw [if_neg (by decide)]
      exact ⟨91, _, rfl, by decide, by decide, by decide⟩
theorem quo_a : quoL [97] = [34, 97, 34] := by decide +kernel
/-- What is wrong at a depth: all is left out. -/
theorem parts_wrong (V : St → Val × St) (k : Int) (sh : List UInt8) (hsh : sh ≠ []) (n : Nat) (ns : List ByteArray) (e : Int) (he : e ≠ 0) (s2 : St) (vs : List Val) (x : Val) (hV : V s2 = (x, ([], e))) (s : St) (h0 : s.2 = 0) (h64 : vs.length < 64)
    (h2 : (if k = 6 then (nameP ns s).2 else s) = s2) : partsP V k sh (n + 2) ns vs s = (default, ([], e)) := by
  have hb : blanksP ([], e) = ([], e) := rfl
  have hg : giveP 2 ([], e) = ([], e) := if_neg he
  have hp : sh.isPrefixOf ([] : List UInt8) = false := by
    cases sh with
    | nil => exact absurd rfl hsh
    | cons a l => rfl
  rw [partsP, if_neg (fun h => h h0)]
  simp only [if_neg (show ¬ 64 ≤ vs.length by omega), h2, hV, hb, hp]
  rw [if_neg (show ¬ (false = true) by decide), if_neg (show ¬ ([44].isPrefixOf ([] : List UInt8) = true) by decide), hg, partsP, if_pos he]
theorem page_name (c : UInt8) (y : List UInt8) : (nameP [] (34 :: 97 :: 34 :: 58 :: c :: y, 0)) = (bs [97], (c :: y, 0)) := by
  have h1 : blanksP (34 :: 97 :: 34 :: 58 :: c :: y, 0) = (34 :: 97 :: 34 :: 58 :: c :: y, 0) := blanks_go [] (fun _ h => absurd h List.not_mem_nil) 34 _ (by decide)
  have h2 : textR (97 :: 34 :: 58 :: c :: y, 0) = ([97], (58 :: c :: y, 0)) := textR_quo [97] (58 :: c :: y) (by decide +kernel)
  have h3 : blanksP (58 :: c :: y, 0) = (58 :: c :: y, 0) := blanks_go [] (fun _ h => absurd h List.not_mem_nil) 58 _ (by decide)
  unfold nameP
  simp only [h1, pre_one, take_one]
  rw [if_pos (by decide)]
  simp only [h2, idxL, and_false, Bool.false_eq_true, if_false, h3, pre_one, take_one]
  rw [if_pos (by decide)]
theorem stop_c (c : UInt8) (r : List UInt8) (h : isD c = false ∧ c.toNat ≠ 45 ∧ c.toNat ≠ 43 ∧ c.toNat ≠ 46 ∧ c.toNat ≠ 101 ∧ c.toNat ≠ 69) : stopC (c :: r) := h
/-- What reading a nest comes to. -/
theorem nest_read (b : Bool) (v : Val) (hg : goodV v 1 = 0) (hk : ∀ k t ns vs, v = .mk k t ns vs → k < 5) : ∀ (j : Nat) (n : Nat) (d : Int), 1 ≤ d → d ≤ 9 → ((j : Int) ≤ n ∨ 9 - d ≤ n) → ∀ r, stopC r →
    (d + j ≤ 8 → valueP (n + 1) d (prV (nest b j v) ++ r, 0) = (nest b j v, (r, 0))) ∧ (8 < d + j → (valueP (n + 1) d (prV (nest b j v) ++ r, 0)) = (default, ([], 9)))
  | j, n, d, h1, h9, hj, r, hr => by
    have hh := head_nest b v (head_leaf v 1 hg hk) j
    by_cases hd : 8 < d
    · refine ⟨fun h => by omega, fun _ => ?_⟩
      obtain ⟨c, y, e, hb, _, _⟩ := hh
      have hb0 := blanks_go [] (fun _ h => absurd h List.not_mem_nil) c (y ++ r) hb
      rw [List.nil_append] at hb0
      rw [e, List.cons_append, valueP]
      have hc : 8 < d ∧ c :: (y ++ r) ≠ [] := ⟨hd, List.cons_ne_nil _ _⟩
      simp only [hb0, if_pos hc]
      rfl
    cases j with
    | zero =>
      refine ⟨fun _ => ?_, fun h => by omega⟩
      have := value_leaf v 1 hg hk n d (by omega) [] (fun _ h => absurd h List.not_mem_nil) r hr
      rwa [List.nil_append] at this
    | succ j =>
      obtain ⟨n, rfl⟩ : ∃ m, n = m + 1 := ⟨n - 1, by omega⟩
      have hh := head_nest b v (head_leaf v 1 hg hk) j
      rw [nest, wrap_pr]
      cases b with
      | false =>
        rw [if_neg (by decide)]
        have ih := nest_read false v hg hk j n (d + 1) (by omega) (by omega) (by omega) (93 :: r) (stop_c 93 r (by decide))
        have hgo := value_go (n + 1) d (by omega) [] (fun _ h => absurd h List.not_mem_nil) 91 (prV (nest false j v) ++ [93] ++ r) (by decide)
        rw [List.nil_append] at hgo
        rw [List.cons_append, hgo, if_neg (by rw [nullB, pre_head _ _ _ _ (by decide)]; decide), if_neg (by rw [falseB, pre_head _ _ _ _ (by decide)]; decide), if_neg (by rw [trueB, pre_head _ _ _ _ (by decide)]; decide), if_neg (by rw [pre_one]; decide), if_pos (by rw [pre_one]; decide), take_one, List.append_assoc]
        show (_ → partsR _ 5 [93] (prV (nest false j v) ++ 93 :: r, 0) = _) ∧ (_ → partsR _ 5 [93] (prV (nest false j v) ++ 93 :: r, 0) = _)
        obtain ⟨c, y, e, hb, hc, _⟩ := hh
        rw [e, List.cons_append] at ih ⊢
        refine ⟨fun h => ?_, fun h => ?_⟩
        · rw [parts_one _ c _ r (nest false j v) hb hc (ih.1 (by omega))]
          rfl
        · have hb0 := blanks_go [] (fun _ h => absurd h List.not_mem_nil) c (y ++ 93 :: r) hb
          rw [List.nil_append] at hb0
          unfold partsR
          rw [hb0, if_neg (by rw [pre_head _ _ _ _ (fun h => hc h.symm)]; decide)]
          exact parts_wrong _ 5 [93] (by decide) 65 [] 9 (by decide) _ [] _ (ih.2 (by omega)) _ rfl (by decide) (if_neg (by decide))
      | true =>
        rw [if_pos rfl]
        have ih := nest_read true v hg hk j n (d + 1) (by omega) (by omega) (by omega) (125 :: r) (stop_c 125 r (by decide))
        have hgo := value_go (n + 1) d (by omega) [] (fun _ h => absurd h List.not_mem_nil) 123 (quoL [97] ++ ([58] ++ prV (nest true j v)) ++ [125] ++ r) (by decide)
        rw [List.nil_append] at hgo
        rw [List.cons_append, hgo, if_neg (by rw [nullB, pre_head _ _ _ _ (by decide)]; decide), if_neg (by rw [falseB, pre_head _ _ _ _ (by decide)]; decide), if_neg (by rw [trueB, pre_head _ _ _ _ (by decide)]; decide), if_neg (by rw [pre_one]; decide), if_neg (by rw [pre_one]; decide), if_pos (by rw [pre_one]; decide), take_one, quo_a]
        obtain ⟨c, y, e, hb, _, hc⟩ := hh
        rw [e] at ih ⊢
        have ex : [34, 97, 34] ++ ([58] ++ c :: y) ++ [125] ++ r = 34 :: 97 :: 34 :: 58 :: c :: (y ++ 125 :: r) := by simp
        rw [ex]
        rw [List.cons_append] at ih
        have hb0 : blanksP (34 :: 97 :: 34 :: 58 :: c :: (y ++ 125 :: r), 0) = (34 :: 97 :: 34 :: 58 :: c :: (y ++ 125 :: r), 0) := blanks_go [] (fun _ h => absurd h List.not_mem_nil) 34 _ (by decide)
        have hb1 : blanksP (125 :: r, 0) = (125 :: r, 0) := blanks_go [] (fun _ h => absurd h List.not_mem_nil) 125 _ (by decide)
        have hn := page_name c (y ++ 125 :: r)
        unfold partsR
        rw [hb0, if_neg (by rw [pre_one]; decide)]
        refine ⟨fun h => ?_, fun h => ?_⟩
        · rw [partsP, if_neg (fun h : (0 : Int) ≠ 0 => h rfl)]
          simp only [List.length_nil, show ¬ 64 ≤ 0 by decide, if_false, if_true, hn, ih.1 (by omega), hb1, List.nil_append]
          rw [if_pos (by rw [pre_one]; decide), take_one]
          rfl
        · exact parts_wrong _ 6 [125] (by decide) 65 [] 9 (by decide) _ [] _ (ih.2 (by omega)) _ rfl (by decide) (by rw [if_pos rfl, hn])
theorem nest_parse (b : Bool) (v : Val) (hg : goodV v 1 = 0) (hk : ∀ k t ns vs, v = .mk k t ns vs → k < 5) (j : Nat) : (j ≤ 7 → (parseP (prV (nest b j v))).2 = 0) ∧ (7 < j → (parseP (prV (nest b j v))).2 = 9) := by
  have h := nest_read b v hg hk j 9 1 (by decide) (by decide) (.inr (by decide)) [] trivial
  rw [List.append_nil] at h
  refine ⟨fun hl => ?_, fun hl => ?_⟩
  · rw [parse_of _ _ [] (h.1 (by omega)) (fun _ h => absurd h List.not_mem_nil)]
  · unfold parseP
    simp only [h.2 (by omega)]
    rfl
def impCodH : FuncId → Bool := fun f => f == 17 || f == 18 || f == 19 || f == 20 || f == 21 || f == 29 || f == 31 || f == 32 || f == 33 || f == 34 || f == 40 || f == 46 || f == 47 || f == 68
/-- escutcheon/escutcheonref20.Print -/
def lc11 : LCode := .seq (.reg []
  [o1 1 (.box 32 (.tmp 0)),
  o1 2 (.assign (.const (.string { data := #[] })))]) (.seq (.reg []
  [o1 6 (.build 59 #[(0, .const (.string { data := #[110, 117, 108, 108] })), (1, .const (.string { data := #[102, 97, 108, 115, 101] })), (2, .const (.string { data := #[116, 114, 117, 101] }))]),
  o1 3 (.alloc 59),
  o3 (.store 59 (.tmp 3) (.tmp 6))]) (.seq (.seq (.reg []
  [o1 7 (.fieldAddr 32 (.tmp 1) 0),
  o1 8 (.load 3 (.tmp 7)),
  o1 9 (.binOp .lss 3 (.tmp 8) (.const (.int .i64 3)) 3)]) (.cond (.tmp 9) (.seq (.reg []
  [o1 10 (.fieldAddr 32 (.tmp 1) 0),
  o1 11 (.load 3 (.tmp 10)),
  o1 12 (.indexAddr 59 (.tmp 3) (.tmp 11)),
  o1 13 (.load 9 (.tmp 12)),
  o1 2 (.assign (.tmp 13))]) (.ret)) (.skip))) (.seq (.seq (.reg []
  [o1 14 (.fieldAddr 32 (.tmp 1) 0),
  o1 15 (.load 3 (.tmp 14)),
  o1 16 (.binOp .eql 3 (.tmp 15) (.const (.int .i64 3)) 3)]) (.cond (.tmp 16) (.seq (.reg []
  [o1 17 (.fieldAddr 32 (.tmp 1) 1),
  o1 18 (.load 9 (.tmp 17)),
  o1 2 (.assign (.tmp 18))]) (.ret)) (.skip))) (.seq (.seq (.reg []
  [o1 19 (.fieldAddr 32 (.tmp 1) 0),
  o1 20 (.load 3 (.tmp 19)),
  o1 21 (.binOp .eql 3 (.tmp 20) (.const (.int .i64 4)) 3)]) (.cond (.tmp 21) (.seq (.reg []
  [o1 22 (.fieldAddr 32 (.tmp 1) 1),
  o1 23 (.load 9 (.tmp 22)),
  o1 24 (.call ⟨.value (.func 22), #[.tmp 23], #[9]⟩),
  o1 2 (.assign (.tmp 24))]) (.ret)) (.skip))) (.seq (.reg []
  [o1 4 (.assign (.const (.string { data := #[] })))]) (.seq (.seq (.reg []
  [o1 25 (.fieldAddr 32 (.tmp 1) 3),
  o1 26 (.load 30 (.tmp 25)),
  o1 27 (.call ⟨.builtin .len, #[.tmp 26], #[30]⟩),
  o1 28 (.move (.const (.int .i64 0)))]) (.block 0 (.loop (.seq (.reg []
  [o1 29 (.binOp .lss 3 (.tmp 28) (.tmp 27) 3)]) (.seq (.cond (.tmp 29) (.skip) (.exit 0)) (.seq (.block 1 (.seq (.reg []
  [o1 30 (.move (.tmp 28)),
  o1 5 (.assign (.tmp 30))]) (.seq (.seq (.reg []
  [o1 31 (.move (.tmp 5)),
  o1 32 (.binOp .gtr 3 (.tmp 31) (.const (.int .i64 0)) 3)]) (.cond (.tmp 32) (.reg []
  [o1 33 (.move (.tmp 4)),
  o1 34 (.binOp .add 9 (.tmp 33) (.const (.string { data := #[44] })) 9),
  o1 4 (.assign (.tmp 34))]) (.skip))) (.seq (.seq (.reg []
  [o1 35 (.fieldAddr 32 (.tmp 1) 0),
  o1 36 (.load 3 (.tmp 35)),
  o1 37 (.binOp .eql 3 (.tmp 36) (.const (.int .i64 6)) 3)]) (.cond (.tmp 37) (.reg []
  [o1 38 (.move (.tmp 4)),
  o1 39 (.fieldAddr 32 (.tmp 1) 2),
  o1 40 (.load 23 (.tmp 39)),
  o1 41 (.move (.tmp 5)),
  o1 42 (.indexAddr 23 (.tmp 40) (.tmp 41)),
  o1 43 (.load 9 (.tmp 42)),
  o1 44 (.call ⟨.value (.func 22), #[.tmp 43], #[9]⟩),
  o1 45 (.binOp .add 9 (.tmp 38) (.tmp 44) 9),
  o1 46 (.binOp .add 9 (.tmp 45) (.const (.string { data := #[58] })) 9),
  o1 4 (.assign (.tmp 46))]) (.skip))) (.reg []
  [o1 47 (.move (.tmp 4)),
  o1 48 (.fieldAddr 32 (.tmp 1) 3),
  o1 49 (.load 30 (.tmp 48)),
  o1 50 (.move (.tmp 5)),
  o1 51 (.indexAddr 30 (.tmp 49) (.tmp 50)),
  o1 52 (.load 32 (.tmp 51)),
  o1 53 (.call ⟨.value (.func 11), #[.tmp 52], #[32]⟩),
  o1 54 (.binOp .add 9 (.tmp 47) (.tmp 53) 9),
  o1 4 (.assign (.tmp 54))]))))) (.reg []
  [o1 55 (.binOp .add 3 (.tmp 28) (.const (.int .i64 1)) 3),
  o1 28 (.move (.tmp 55))]))))))) (.seq (.seq (.reg []
  [o1 56 (.fieldAddr 32 (.tmp 1) 0),
  o1 57 (.load 3 (.tmp 56)),
  o1 58 (.binOp .eql 3 (.tmp 57) (.const (.int .i64 5)) 3)]) (.cond (.tmp 58) (.seq (.reg []
  [o1 59 (.move (.tmp 4)),
  o1 60 (.binOp .add 9 (.const (.string { data := #[91] })) (.tmp 59) 9),
  o1 61 (.binOp .add 9 (.tmp 60) (.const (.string { data := #[93] })) 9),
  o1 2 (.assign (.tmp 61))]) (.ret)) (.skip))) (.seq (.reg []
  [o1 62 (.move (.tmp 4)),
  o1 63 (.binOp .add 9 (.const (.string { data := #[123] })) (.tmp 62) 9),
  o1 64 (.binOp .add 9 (.tmp 63) (.const (.string { data := #[125] })) 9),
  o1 2 (.assign (.tmp 64))]) (.ret)))))))))
def ms11_0 : List Nat := [0, 3, 4, 5, 6, 7, 8, 9, 10, 11, 12, 13, 14, 15, 16, 17, 18, 19, 20, 21, 22, 23, 24, 25, 26, 28, 29, 30, 31, 32, 33, 34, 35, 36, 37, 38, 39, 40, 41, 42, 43, 44, 45, 46, 47, 48, 49, 50, 51, 52, 53, 54, 55]
theorem ls11 : Tryz.f11.body.map (strip Tryz.prog impCodH) = some lc11 := by kernel_rfl
theorem lcall11 : LC 11 65 lc11 [.tmp 2] := LC.of Tryz.func11 (by kernel_rfl) ls11 (by kernel_rfl) (by kernel_rfl)
/-- escutcheon/escutcheonref20.Quoted -/
def lc22 : LCode := .seq (.reg []
  [o1 2 (.assign (.const (.string { data := #[] })))]) (.seq (.reg []
  [o1 3 (.assign (.const (.string { data := #[34] })))]) (.seq (.seq (.reg []
  [o1 4 (.assign (.const (.int .i64 0)))]) (.block 0 (.loop (.seq (.seq (.reg []
  [o1 5 (.move (.tmp 4)),
  o1 6 (.move (.tmp 0)),
  o1 7 (.call ⟨.builtin .len, #[.tmp 6], #[9]⟩),
  o1 8 (.binOp .lss 3 (.tmp 5) (.tmp 7) 3)]) (.cond (.tmp 8) (.skip) (.exit 0))) (.seq (.block 1 (.seq (.seq (.reg []
  [o1 11 (.move (.tmp 0)),
  o1 12 (.move (.tmp 4)),
  o1 13 (.index 9 (.tmp 11) (.tmp 12)),
  o1 14 (.binOp .eql 5 (.tmp 13) (.const (.int .u8 34)) 5),
  o1 15 (.move (.tmp 14)),
  o2 16 (.move (.tmp 0)) 15 false,
  o2 17 (.move (.tmp 4)) 15 false,
  o2 18 (.index 9 (.tmp 16) (.tmp 17)) 15 false,
  o2 19 (.binOp .eql 5 (.tmp 18) (.const (.int .u8 92)) 5) 15 false,
  o1 20 (.pick (.tmp 15) (.const (.bool true)) (.tmp 19))]) (.cond (.tmp 20) (.reg []
  [o1 21 (.move (.tmp 3)),
  o1 22 (.binOp .add 9 (.tmp 21) (.const (.string { data := #[92] })) 9),
  o1 3 (.assign (.tmp 22))]) (.skip))) (.seq (.reg []
  [o1 23 (.move (.tmp 0)),
  o1 24 (.move (.tmp 4)),
  o1 25 (.index 9 (.tmp 23) (.tmp 24)),
  o1 26 (.binOp .lss 5 (.tmp 25) (.const (.int .u8 32)) 5)]) (.cond (.tmp 26) (.reg []
  [o1 27 (.move (.tmp 3)),
  o1 28 (.binOp .add 9 (.tmp 27) (.const (.string { data := #[92, 117, 48, 48] })) 9),
  o1 29 (.move (.tmp 0)),
  o1 30 (.move (.tmp 4)),
  o1 31 (.index 9 (.tmp 29) (.tmp 30)),
  o1 32 (.buildSlice 49 1 #[(0, .tmp 31)]),
  o1 33 (.call ⟨.value (.func 37), #[.tmp 32], #[49]⟩),
  o1 34 (.binOp .add 9 (.tmp 28) (.tmp 33) 9),
  o1 3 (.assign (.tmp 34))]) (.reg []
  [o1 35 (.move (.tmp 3)),
  o1 36 (.move (.tmp 0)),
  o1 37 (.move (.tmp 4)),
  o1 38 (.move (.tmp 4)),
  o1 39 (.binOp .add 3 (.tmp 38) (.const (.int .i64 1)) 3),
  o1 40 (.slice 9 (.tmp 36) (some (.tmp 37)) (some (.tmp 39)) none),
  o1 41 (.binOp .add 9 (.tmp 35) (.tmp 40) 9),
  o1 3 (.assign (.tmp 41))]))))) (.reg []
  [o1 9 (.move (.tmp 4)),
  o1 10 (.binOp .add 3 (.tmp 9) (.const (.int .i64 1)) 3),
  o1 4 (.assign (.tmp 10))])))))) (.seq (.reg []
  [o1 42 (.move (.tmp 3)),
  o1 43 (.binOp .add 9 (.tmp 42) (.const (.string { data := #[34] })) 9),
  o1 2 (.assign (.tmp 43))]) (.ret))))
def ms22_0 : List Nat := [1, 3, 4, 5, 6, 7, 8, 9, 10, 11, 12, 13, 14, 15, 16, 17, 18, 19, 20, 21, 22, 23, 24, 25, 26, 27, 28, 29, 30, 31, 32, 33, 34, 35, 36, 37, 38, 39, 40, 41]
theorem ls22 : Tryz.f22.body.map (strip Tryz.prog impCodH) = some lc22 := by kernel_rfl
theorem lcall22 : LC 22 44 lc22 [.tmp 2] := LC.of Tryz.func22 (by kernel_rfl) ls22 (by kernel_rfl) (by kernel_rfl)
/-- escutcheon/escutcheonref01.Hex -/
def lc37 : LCode := .seq (.reg []
  [o1 2 (.assign (.const (.string { data := #[] })))]) (.seq (.reg []
  [o1 3 (.assign (.const (.slice none 0 0)))]) (.seq (.seq (.reg []
  [o1 5 (.move (.tmp 0)),
  o1 6 (.call ⟨.builtin .len, #[.tmp 5], #[49]⟩),
  o1 7 (.move (.const (.int .i64 0)))]) (.block 0 (.loop (.seq (.reg []
  [o1 8 (.binOp .lss 3 (.tmp 7) (.tmp 6) 3)]) (.seq (.cond (.tmp 8) (.skip) (.exit 0)) (.seq (.block 1 (.seq (.reg []
  [o1 9 (.move (.tmp 7)),
  o1 4 (.assign (.tmp 9))]) (.reg [o1 10 (.move (.tmp 3)),
  o1 11 (.move (.tmp 0)),
  o1 12 (.move (.tmp 4)),
  o1 13 (.indexAddr 49 (.tmp 11) (.tmp 12)),
  o1 14 (.load 5 (.tmp 13)),
  o1 15 (.convert 5 3 (.tmp 14)),
  o1 16 (.binOp .quo 3 (.tmp 15) (.const (.int .i64 16)) 3),
  o1 17 (.call ⟨.value (.func 54), #[.tmp 16], #[3]⟩),
  o1 18 (.move (.tmp 0)),
  o1 19 (.move (.tmp 4)),
  o1 20 (.indexAddr 49 (.tmp 18) (.tmp 19)),
  o1 21 (.load 5 (.tmp 20)),
  o1 22 (.convert 5 3 (.tmp 21)),
  o1 23 (.binOp .rem 3 (.tmp 22) (.const (.int .i64 16)) 3),
  o1 24 (.call ⟨.value (.func 54), #[.tmp 23], #[3]⟩),
  o1 25 (.buildSlice 49 2 #[(0, .tmp 17), (1, .tmp 24)])]
  [o1 26 (.call ⟨.builtin .append, #[.tmp 10, .tmp 25], #[49, 49]⟩),
  o1 3 (.assign (.tmp 26))]))) (.reg []
  [o1 27 (.binOp .add 3 (.tmp 7) (.const (.int .i64 1)) 3),
  o1 7 (.move (.tmp 27))]))))))) (.seq (.reg []
  [o1 28 (.move (.tmp 3)),
  o1 29 (.convert 49 9 (.tmp 28)),
  o1 2 (.assign (.tmp 29))]) (.ret))))
def ms37_0 : List Nat := [1, 3, 4, 5, 7, 8, 9, 10, 11, 12, 13, 14, 15, 16, 17, 18, 19, 20, 21, 22, 23, 24, 25, 26, 27]
theorem ls37 : Tryz.f37.body.map (strip Tryz.prog impCodH) = some lc37 := by kernel_rfl
theorem lcall37 : LC 37 30 lc37 [.tmp 2] := LC.of Tryz.func37 (by kernel_rfl) ls37 (by kernel_rfl) (by kernel_rfl)
/-- escutcheon/escutcheonref01.digit -/
def lc54 : LCode := .seq (.reg []
  [o1 2 (.assign (.const (.int .u8 0)))]) (.seq (.seq (.reg []
  [o1 3 (.move (.tmp 0)),
  o1 4 (.binOp .lss 3 (.tmp 3) (.const (.int .i64 10)) 3)]) (.cond (.tmp 4) (.seq (.reg []
  [o1 5 (.move (.tmp 0)),
  o1 6 (.binOp .add 3 (.const (.int .i64 48)) (.tmp 5) 3),
  o1 7 (.convert 3 5 (.tmp 6)),
  o1 2 (.assign (.tmp 7))]) (.ret)) (.skip))) (.seq (.reg []
  [o1 8 (.move (.tmp 0)),
  o1 9 (.binOp .add 3 (.const (.int .i64 97)) (.tmp 8) 3),
  o1 10 (.binOp .sub 3 (.tmp 9) (.const (.int .i64 10)) 3),
  o1 11 (.convert 3 5 (.tmp 10)),
  o1 2 (.assign (.tmp 11))]) (.ret)))
theorem ls54 : Tryz.f54.body.map (strip Tryz.prog impCodH) = some lc54 := by kernel_rfl
theorem lcall54 : LC 54 12 lc54 [.tmp 2] := LC.of Tryz.func54 (by kernel_rfl) ls54 (by kernel_rfl) (by kernel_rfl)
end Go.Abs.S
namespace Go.Abs.S
attribute [local go_sem] lguard aopO aop aenv toAV tput aLoad aStore vcells aBin aNilI aUn aAlloc aBox aBuild aBSlice afill aConv isIntT aappZ aCap aArr aMM aMake aSlice bnd3 bnd aFldAddr aFld aIdxAddr aIdx aExt aLen aCopy aEq0 bAV aUb aapp aappQ agh acont List.getD_cons_zero List.getD_cons_succ List.set_cons_zero List.set_cons_succ List.getElem?_cons_zero List.getElem?_cons_succ List.length_cons List.length_nil List.map_cons List.map_nil ints_length if_true if_false Bool.false_eq_true true_and and_true eq_self ne_eq not_false_eq_true not_true_eq_false beq_self_eq_true Nat.zero_add Nat.add_zero Nat.mul_one Nat.zero_mul Int.toNat_natCast List.toList_toArray List.all_cons List.all_nil AV.one Value.oneCell' Bool.and_true Bool.true_and forall_const true_implies false_implies implies_true Option.map_some Option.map_none Option.isSome_some Option.isSome_none imp_self rdP_flat rdP_row splice_one ints_set ints_get List.append_nil List.cons_append List.nil_append List.getElem?_toArray List.drop_zero ints_drop ints_take List.take_of_length_le splice_all ints_one Option.some.injEq Option.getD_some List.length_replicate zArr List.map_replicate rep_ints splice_intsR List.length_set List.length_append List.flatten_replicate_singleton rep_slice rep_string rep_bool rep_iface List.replicate_zero if_pos if_neg List.mapM_cons List.mapM_nil Option.pure_def Option.bind_eq_bind Option.bind_some Bool.true_eq_false Bool.not_false Bool.not_true get_concat set_concat
open Go.Proofs
set_option linter.unusedVariables false
set_option linter.unusedSimpArgs false
set_option maxRecDepth 100000
set_option maxHeartbeats 8000000
theorem digit_p (n : Nat) (h : n < 16) : PCall Tryz.prog glob 54 [.v (.int .i64 n)] (.v (.int .u8 ((hx n).toNat : Int))) := by
  refine PCall.of ctx.nr nrs (NR.v _) ?_
  refine lcall54 (by simp) 0 (Nat.le_refl _) ?_
  unfold lc54
  refine I1 tt ⟨?_⟩
  have hc : ∀ n : Nat, n < 16 → ((hx n).toNat : Int) = if n < 10 then 48 + (n : Int) else 87 + (n : Int) := by decide
  have hn := hc n h
  by_cases h10 : n < 10
  · rw [if_pos h10] at hn
    have q : decide ((n : Int) < 10) = true := by rw [decide_eq_true_eq]; omega
    have e1 := i64n (48 + (n : Int)) (48 + n) (by omega) (by omega)
    have e2 : IntKind.u8.wrap ((48 + n : Nat) : Int) = ((hx n).toNat : Int) := by rw [IntKind.wrap_u8, hn]; omega
    refine G1 F4 (an q (an e1 (an e2 tt))) tt tt tt ⟨?_⟩
    refine R1 tt ⟨?_⟩
    exact end0 (NR.v _) rfl
  · rw [if_neg h10] at hn
    have q : decide ((n : Int) < 10) = false := by rw [decide_eq_false_iff_not]; omega
    have e1 := i64n (97 + (n : Int)) (97 + n) (by omega) (by omega)
    have e3 := i64n (((97 + n : Nat) : Int) - 10) (87 + n) (by omega) (by omega)
    have e2 : IntKind.u8.wrap ((87 + n : Nat) : Int) = ((hx n).toNat : Int) := by rw [IntKind.wrap_u8, hn]; omega
    refine G1 F4 (an q (an e1 (an e2 (an e3 tt)))) tt tt tt ⟨?_⟩
    refine R1 tt ⟨?_⟩
    exact end0 (NR.v _) rfl
theorem rhex_p (c : Nat) (hc : c < 32) (cx : Option Nat) (hcx : NR (.vsl 1 (ints .u8 [(c : Int)]) cx)) : PCall Tryz.prog glob 37 [.vsl 1 (ints .u8 [(c : Int)]) cx] (.v (.string (bs [hx (c / 16), hx (c % 16)]))) := by
  refine PCall.of ctx.nr (List.forall_mem_cons.2 ⟨hcx, fun _ h => absurd h List.not_mem_nil⟩) (NR.v _) ?_
  refine lcall37 (by simp) 0 (Nat.le_refl _) ?_
  unfold lc37
  refine I1 tt ⟨?_⟩
  have d1 := digit_p (c / 16) (by omega)
  have d2 := digit_p (c % 16) (by omega)
  have w0 := i64n (c : Int) c rfl (by omega)
  have t1 : ((c : Nat) : Int).tdiv 16 = ((c / 16 : Nat) : Int) := rfl
  have t2 : ((c : Nat) : Int).tmod 16 = ((c % 16 : Nat) : Int) := rfl
  have w1 := i64n ((c / 16 : Nat) : Int) (c / 16) rfl (by omega)
  have w2 := i64n ((c % 16 : Nat) : Int) (c % 16) rfl (by omega)
  have i1 : IntKind.i64.wrap (0 + 1) = 1 := by decide
  obtain ⟨a, ha⟩ : ∃ a, c / 16 = a := ⟨_, rfl⟩
  obtain ⟨b, hb⟩ : ∃ a, c % 16 = a := ⟨_, rfl⟩
  rw [ha] at d1 t1 w1 ⊢
  rw [hb] at d2 t2 w2 ⊢
  have es := str_two (hx a) (hx b)
  have e2 : [AV.v (.int .u8 ((hx a).toNat : Int)), AV.v (.int .u8 ((hx b).toNat : Int))] = ints .u8 [((hx a).toNat : Int), ((hx b).toNat : Int)] := rfl
  refine G1 F4 tt tt tt tt ⟨?_⟩
  refine lavc_rounds 2 ?_
  repeat (first
    | (with_reducible refine lops_step fun K hK => ?_; simp (disch := first | exact dch | fail) only [go_sem, Nat.reduceAdd, Nat.reduceSub, reduceIte, Nat.reduceEqDiff, Int.reduceToNat, Int.reduceBEq, Int.reduceBNe, w0, t1, t2, w1, w2, i1, splice, List.take_succ_cons, List.take_zero, List.drop_succ_cons, List.drop_zero, List.drop_nil, List.cons_append, List.nil_append, List.append_nil, List.length_cons, List.length_nil, List.replicate_succ, List.replicate_zero, List.flatten_cons, List.flatten_nil, Nat.reduceMul, Nat.reduceAdd, Nat.reduceLeDiff, List.set_cons_zero, List.set_cons_succ, e2, es]; (try (first | (refine And.intro (fun _ => ?_) (fun h => absurd h (by decide))) | (refine And.intro (fun h => absurd h (by decide)) (fun _ => ?_)))); (repeat (with_reducible refine And.intro acl ?_)); (first | (refine hK _ _ ?_) | (refine ⟨_, rfl, hK _ _ ?_⟩) | (refine Or.inl (hK _ _ ?_)) | (refine ⟨_, _, Or.inl (d1.go _), (by first | exact ⟨[], (List.append_nil _).symm⟩ | exact ⟨_, rfl⟩), hK _ _ ?_⟩) | (refine ⟨_, _, Or.inl (d1.go _), hK _ _ ?_⟩) | (refine ⟨_, _, Or.inl (d1.go _).weakQ, hK _ _ ?_⟩) | (refine ⟨_, _, Or.inl (d2.go _), (by first | exact ⟨[], (List.append_nil _).symm⟩ | exact ⟨_, rfl⟩), hK _ _ ?_⟩) | (refine ⟨_, _, Or.inl (d2.go _), hK _ _ ?_⟩) | (refine ⟨_, _, Or.inl (d2.go _).weakQ, hK _ _ ?_⟩)); clear hK K)
    | (with_reducible refine lops_nil ?_)
    | (with_reducible first | refine lavc_reg ?_ | refine lavc_seq ?_ | refine lavc_block ?_ | refine lavc_skip ?_ | refine lavc_exit ?_ | refine lavc_ret ?_ | refine lavcR_round ?_)
    | (refine lavc_cond rfl (fun _ => ?_) (fun hc => absurd hc (by decide)))
    | (refine lavc_cond rfl (fun hc => absurd hc (by decide)) (fun _ => ?_))
    | (simp only [↓reduceIte, Nat.reduceEqDiff, reduceCtorEq]))
  refine R1 tt ⟨?_⟩
  exact end0 (NR.v _) rfl
theorem rquoted_p (l : List UInt8) (hl : l.length ≤ 1000000000) : PCall Tryz.prog glob 22 [.v (.string (bs l))] (.v (.string (bs (quoL l)))) := by
  refine PCall.of ctx.nr nrs (NR.v _) ?_
  refine lcall22 (by simp) 0 (Nat.le_refl _) ?_
  unfold lc22
  refine I1 tt ⟨?_⟩
  obtain ⟨V, hV⟩ : ∃ V, quoL l = V := ⟨_, rfl⟩
  have hV2 : V = 34 :: quoB (l.take l.length) ++ [34] := by rw [List.take_length, ← hV]; rfl
  rw [hV]
  have a34 : (⟨#[34]⟩ : ByteArray) = bs [34] := rfl
  have a92 : (⟨#[92]⟩ : ByteArray) = bs [92] := rfl
  have a00 : (⟨#[92, 117, 48, 48]⟩ : ByteArray) = bs [92, 117, 48, 48] := rfl
  refine G1 F1 tt tt tt tt ⟨?_⟩
  refine lavc_loopM ms22_0 (fun m (x : Nat × List UInt8) => m + x.1 = l.length ∧ x.2 = 34 :: quoB (l.take x.1)) (fun x => [(4, .v (.int .i64 x.1)), (3, .v (.string (bs x.2)))]) (fun _ => []) l.length (0, [34]) ⟨by show l.length + 0 = _; omega, rfl⟩ ?_ rfl ?_
  · refine ALe.mk ?_
    simp only [ms22_0, putAll, blank, List.foldl_cons, List.foldl_nil, List.set_cons_succ, List.set_cons_zero, List.cons_append, List.nil_append, ALe0, true_or, or_true, and_true, true_and, eq_self, reduceCtorEq, false_or]
    try exact ⟨rfl, rfl⟩
  rintro m ⟨k, acc⟩ ⟨hk, hi⟩
  simp only at hk hi ⊢
  try unfold ms22_0
  refine M1 tt ⟨?_⟩
  have hql := (quoB_len (l.take k)).2
  rw [List.length_take] at hql
  have hacc : acc.length ≤ 6 * l.length + 1 := by
    rw [hi, List.length_cons]
    omega
  have ba := fun m : List UInt8 => bs_append acc m
  refine G1 F1 tt tt tt tt ⟨?_⟩
  refine cnd rfl (fun hc => ?_) (fun hc => ?_)
  · have hkl : k < l.length := by omega
    have e3 := i64n ((k : Int) + 1) (k + 1) (by omega) (by omega)
    have hst := quoB_take l k hkl
    have hsl : List.take (k + 1 - k) (List.drop k l) = [l.getD k 0] := by
      rw [show k + 1 - k = 1 by omega, List.drop_eq_getElem_cons hkl, List.getD_eq_getElem?_getD, List.getElem?_eq_getElem hkl]
      rfl
    obtain ⟨c, hc⟩ : ∃ c, l.getD k 0 = c := ⟨_, rfl⟩
    rw [hc] at hst hsl
    have hn1 : ∀ A : List UInt8, A = acc ++ esc1 c → A = 34 :: quoB (l.take (k + 1)) := fun A h => by rw [h, hi, hst]; rfl
    by_cases k1 : c.toNat = 34 ∨ c.toNat = 92
    · have he : esc1 c = [92, c] := by unfold esc1; rw [if_pos k1]
      have fin := hn1 (acc ++ [92] ++ [c]) (by rw [he, List.append_assoc]; rfl)
      have b2 := bs_append acc [92]
      have b3 := bs_append (acc ++ [92]) [c]
      have l0 : (acc ++ [92]).length = acc.length + 1 := by simp
      have q2 : decide ((c.toNat : Int) < 32) = false := by rw [decide_eq_false_iff_not]; omega
      rcases k1 with k1 | k1
      · have q1 : ((c.toNat : Int) == 34) = true := by rw [k1]; rfl
        refine G1 F4 (an hc (an q1 (an q2 (an e3 (an a92 (an b2 (an b3 (an l0 (an hsl tt))))))))) tt tt tt ⟨?_⟩
        refine ⟨m - 1, (k + 1, acc ++ [92] ++ [c]), by omega, ⟨by show m - 1 + (k + 1) = l.length; omega, fin⟩, ?_, (by first | rfl | trivial)⟩
        try unfold ms22_0
        exact A0 tt
      · have q0 : (((c.toNat : Int) : Int) == 34) = false := by rw [beq_eq_false_iff_ne, ne_eq]; omega
        have q1 : ((c.toNat : Int) == 92) = true := by rw [k1]; rfl
        refine G1 F4 (an hc (an q0 (an q1 (an q2 (an e3 (an a92 (an b2 (an b3 (an l0 (an hsl tt)))))))))) tt tt tt ⟨?_⟩
        refine ⟨m - 1, (k + 1, acc ++ [92] ++ [c]), by omega, ⟨by show m - 1 + (k + 1) = l.length; omega, fin⟩, ?_, (by first | rfl | trivial)⟩
        try unfold ms22_0
        exact A0 tt
    have q0 : (((c.toNat : Int) : Int) == 34) = false := by rw [beq_eq_false_iff_ne, ne_eq]; omega
    have q1 : (((c.toNat : Int) : Int) == 92) = false := by rw [beq_eq_false_iff_ne, ne_eq]; omega
    by_cases k2 : c.toNat < 32
    · have q2 : decide ((c.toNat : Int) < 32) = true := by rw [decide_eq_true_eq]; omega
      have he : esc1 c = [92, 117, 48, 48, hx (c.toNat / 16), hx (c.toNat % 16)] := by unfold esc1; rw [if_neg k1, if_pos k2]
      have fin := hn1 (acc ++ [92, 117, 48, 48] ++ [hx (c.toNat / 16), hx (c.toNat % 16)]) (by rw [he, List.append_assoc]; rfl)
      have hp := rhex_p c.toNat k2 (some 1) (NR.vsl (NR.ints _ _))
      have e1 : (List.replicate 1 (0 : Int)).set 0 (c.toNat : Int) = [(c.toNat : Int)] := rfl
      have b2 := bs_append acc [92, 117, 48, 48]
      have b3 := bs_append (acc ++ [92, 117, 48, 48]) [hx (c.toNat / 16), hx (c.toNat % 16)]
      have l0 : (acc ++ [92, 117, 48, 48]).length = acc.length + 4 := by simp
      have l1 : [hx (c.toNat / 16), hx (c.toNat % 16)].length = 2 := rfl
      refine G1 F5 (an hc (an q0 (an q1 (an q2 (an e1 (an e3 (an a00 (an b2 (an b3 (an l0 (an l1 tt))))))))))) (an hp.go tt) tt tt ⟨?_⟩
      refine ⟨m - 1, (k + 1, acc ++ [92, 117, 48, 48] ++ [hx (c.toNat / 16), hx (c.toNat % 16)]), by omega, ⟨by show m - 1 + (k + 1) = l.length; omega, fin⟩, ?_, (by first | rfl | trivial)⟩
      try unfold ms22_0
      exact A0 tt
    · have q2 : decide ((c.toNat : Int) < 32) = false := by rw [decide_eq_false_iff_not]; omega
      have he : esc1 c = [c] := by unfold esc1; rw [if_neg k1, if_neg k2]
      have fin := hn1 (acc ++ [c]) (by rw [he])
      have b2 := bs_append acc [c]
      refine G1 F4 (an hc (an q0 (an q1 (an q2 (an e3 (an b2 (an hsl tt))))))) tt tt tt ⟨?_⟩
      refine ⟨m - 1, (k + 1, acc ++ [c]), by omega, ⟨by show m - 1 + (k + 1) = l.length; omega, fin⟩, ?_, (by first | rfl | trivial)⟩
      try unfold ms22_0
      exact A0 tt
  · have hk2 : k = l.length := by omega
    subst hk2
    have b1 := bs_append acc [34]
    refine G1 F4 (an a34 (an b1 tt)) tt tt tt ⟨?_⟩
    refine R1 tt ⟨?_⟩
    refine end0 (NR.v _) ?_
    rw [hV2, ← hi]
end Go.Abs.S
namespace Go.Abs.S
attribute [local go_sem] lguard aopO aop aenv toAV tput aLoad aStore vcells aBin aNilI aUn aAlloc aBox aBuild aBSlice afill aConv isIntT aappZ aCap aArr aMM aMake aSlice bnd3 bnd aFldAddr aFld aIdxAddr aIdx aExt aLen aCopy aEq0 bAV aUb aapp aappQ agh acont List.getD_cons_zero List.getD_cons_succ List.set_cons_zero List.set_cons_succ List.getElem?_cons_zero List.getElem?_cons_succ List.length_cons List.length_nil List.map_cons List.map_nil ints_length if_true if_false Bool.false_eq_true true_and and_true eq_self ne_eq not_false_eq_true not_true_eq_false beq_self_eq_true Nat.zero_add Nat.add_zero Nat.mul_one Nat.zero_mul Int.toNat_natCast List.toList_toArray List.all_cons List.all_nil AV.one Value.oneCell' Bool.and_true Bool.true_and forall_const true_implies false_implies implies_true Option.map_some Option.map_none Option.isSome_some Option.isSome_none imp_self rdP_flat rdP_row splice_one ints_set ints_get List.append_nil List.cons_append List.nil_append List.getElem?_toArray List.drop_zero ints_drop ints_take List.take_of_length_le splice_all ints_one Option.some.injEq Option.getD_some List.length_replicate zArr List.map_replicate rep_ints splice_intsR List.length_set List.length_append List.flatten_replicate_singleton rep_slice rep_string rep_bool rep_iface List.replicate_zero if_pos if_neg List.mapM_cons List.mapM_nil Option.pure_def Option.bind_eq_bind Option.bind_some Bool.true_eq_false Bool.not_false Bool.not_true get_concat set_concat
open Go.Proofs
set_option linter.unusedVariables false
set_option linter.unusedSimpArgs false
set_option maxRecDepth 100000
set_option maxHeartbeats 8000000
theorem rprint_v : ∀ v : Val, well v → small v → (prV v).length ≤ 1000000000 → PCall Tryz.prog glob 11 [vA v] (.v (.string (bs (prV v)))) := Val.ind fun k t ns vs ih hw hs hl => by
  obtain ⟨⟨hk0, hk6, hkn⟩, hwv⟩ := hw.at
  obtain ⟨⟨ht, hnl, hz, hvl⟩, hall⟩ := hs.at
  have hlx := cellsL_length vs
  have hnx := strs_length ns
  refine PCall.of ctx.nr (List.forall_mem_cons.2 ⟨NR.vA _, fun _ h => absurd h List.not_mem_nil⟩) (NR.v _) ?_
  refine lcall11 (by simp) 0 (Nat.le_refl _) ?_
  rw [prV] at hl ⊢
  unfold vA
  rw [Val.cells]
  have hss : ∀ s : ByteArray, bs (bl s) = s := bs_bl
  unfold lc11
  refine I1 tt ⟨?_⟩
  by_cases c0 : k = 0
  · subst c0
    refine G1 F4 tt tt tt tt ⟨?_⟩
    refine R1 tt ⟨?_⟩
    exact end0 (NR.v _) rfl
  by_cases c1 : k = 1
  · subst c1
    refine G1 F4 tt tt tt tt ⟨?_⟩
    refine R1 tt ⟨?_⟩
    exact end0 (NR.v _) rfl
  by_cases c2 : k = 2
  · subst c2
    refine G1 F4 tt tt tt tt ⟨?_⟩
    refine R1 tt ⟨?_⟩
    exact end0 (NR.v _) rfl
  rw [if_neg c0, if_neg c1, if_neg c2] at hl ⊢
  have k3 : decide (k < 3) = false := by rw [decide_eq_false_iff_not]; omega
  by_cases c3 : k = 3
  · subst c3
    rw [if_pos rfl]
    refine G1 F4 tt tt tt tt ⟨?_⟩
    refine R1 tt ⟨?_⟩
    exact end0 (NR.v _) (by rw [hss])
  rw [if_neg c3] at hl ⊢
  have k3e : ((k : Int) == 3) = false := by rw [beq_eq_false_iff_ne, ne_eq]; omega
  by_cases c4 : k = 4
  · subst c4
    rw [if_pos rfl] at hl ⊢
    have hqb := (quoB_len (bl t)).1
    have hqq : (quoL (bl t)).length = (quoB (bl t)).length + 2 := by unfold quoL; simp
    have qp : PCall Tryz.prog glob 22 [stA t] (.v (.string (bs (quoL (bl t))))) := rquoted_p (bl t) (by omega)
    refine G1 F4 tt (an qp.go tt) tt tt ⟨?_⟩
    refine R1 tt ⟨?_⟩
    exact end0 (NR.v _) rfl
  rw [if_neg c4] at hl ⊢
  have a44 : (⟨#[44]⟩ : ByteArray) = bs [44] := rfl
  have a58 : (⟨#[58]⟩ : ByteArray) = bs [58] := rfl
  have z44 : (#[44] : Array UInt8).size = 1 := rfl
  have z58 : (#[58] : Array UInt8).size = 1 := rfl
  by_cases c6 : k = 6
  · subst c6
    rw [if_pos rfl] at hl ⊢
    obtain ⟨A, hA⟩ : ∃ A, prL 6 ns vs true = A := ⟨_, rfl⟩
    rw [hA] at hl ⊢
    simp only [List.length_cons, List.length_append, List.length_nil] at hl
    refine G1 F4 (an k3 (an k3e tt)) tt tt tt ⟨?_⟩
    refine lavc_loopM ms11_0 (fun m (x : Nat × List UInt8) => m + x.1 = vs.length ∧ x.2 ++ prL 6 (ns.drop x.1) (vs.drop x.1) (decide (x.1 = 0)) = A) (fun x => [(28, ivC x.1), (4, .v (.string (bs x.2)))])
      (fun _ => [Blk.mk [ivC 6, stA t, .vsl ns.length (strs ns) none, .vsl vs.length (cellsL vs) none] 0 true 32, Blk.mk [stA ⟨#[110, 117, 108, 108]⟩, stA ⟨#[102, 97, 108, 115, 101]⟩, stA ⟨#[116, 114, 117, 101]⟩] 0 true 59]) vs.length (0, []) ⟨by show vs.length + 0 = _; omega, hA⟩ ?_ rfl ?_
    · refine ALe.mk ?_
      simp only [ms11_0, putAll, blank, List.foldl_cons, List.foldl_nil, List.set_cons_succ, List.set_cons_zero, List.cons_append, List.nil_append, ALe0, true_or, or_true, and_true, true_and, eq_self, reduceCtorEq, false_or]
      try exact ⟨rfl, rfl⟩
    rintro m ⟨j, ac⟩ ⟨hk, ha⟩
    simp only at hk ha ⊢
    try unfold ms11_0
    refine M1 tt ⟨?_⟩
    refine G1 F1 tt tt tt tt ⟨?_⟩
    refine cnd rfl (fun hc => ?_) (fun hc => ?_)
    · have hkl : j < vs.length := by omega
      rw [prL_step 6 ns vs j hkl] at ha
      have hat := cellsL_at vs j hkl
      have hmem := getD_mem vs j hkl
      have e3 := i64n ((j : Int) + 1) (j + 1) (by omega) (by omega)
      have hj1 : decide (j + 1 = 0) = false := decide_eq_false (by omega)
      have hjn : j < ns.length := by have := hkn rfl; omega
      have hatn := strs_at ns j hjn
      obtain ⟨z, hzz⟩ : ∃ z, ns.getD j ⟨#[]⟩ = z := ⟨_, rfl⟩
      rw [hzz] at hatn ha
      rw [if_pos rfl] at ha
      obtain ⟨y, hy⟩ : ∃ y, vs.getD j default = y := ⟨_, rfl⟩
      rw [hy] at hat ha hmem
      have hal := congrArg List.length ha
      simp only [List.length_append] at hal
      have pc := ih y hmem (hwv y hmem) (hall y hmem) (by omega)
      obtain ⟨k', t', ns', vs'⟩ := y
      unfold vA at pc
      rw [Val.cells] at hat pc
      obtain ⟨py, hpy⟩ : ∃ p, prV (.mk k' t' ns' vs') = p := ⟨_, rfl⟩
      rw [hpy] at ha pc hal
      have hqb := (quoB_len (bl z)).1
      have hqq : (quoL (bl z)).length = (quoB (bl z)).length + 2 := by unfold quoL; simp
      have qp : PCall Tryz.prog glob 22 [stA z] (.v (.string (bs (quoL (bl z))))) := rquoted_p (bl z) (by omega)
      obtain ⟨qz, hqz⟩ : ∃ q, quoL (bl z) = q := ⟨_, rfl⟩
      rw [hqz] at ha hal qp
      by_cases j0 : j = 0
      · have d0 : decide ((j : Int) > 0) = false := by rw [decide_eq_false_iff_not]; omega
        rw [decide_eq_true j0] at ha hal
        try simp only [if_true, Bool.false_eq_true, if_false, List.nil_append, List.length_nil, List.length_cons] at ha
        try simp only [if_true, Bool.false_eq_true, if_false, List.nil_append, List.length_nil, List.length_cons] at hal
        obtain ⟨X0, hX0⟩ : ∃ X, ac = X := ⟨_, rfl⟩
        have u0 := bs_append X0 qz
        have v0 : (X0 ++ qz).length = X0.length + qz.length := by rw [List.length_append]
        obtain ⟨X1, hX1⟩ : ∃ X, X0 ++ qz = X := ⟨_, rfl⟩
        rw [hX1] at u0 v0
        have u1 := bs_append X1 [58]
        have v1 : (X1 ++ [58]).length = X1.length + 1 := by rw [List.length_append]; rfl
        obtain ⟨X2, hX2⟩ : ∃ X, X1 ++ [58] = X := ⟨_, rfl⟩
        rw [hX2] at u1 v1
        have u2 := bs_append X2 py
        have v2 : (X2 ++ py).length = X2.length + py.length := by rw [List.length_append]
        obtain ⟨X3, hX3⟩ : ∃ X, X2 ++ py = X := ⟨_, rfl⟩
        rw [hX3] at u2 v2
        have hac : ac.length = X0.length := by rw [hX0]
        rw [hX0]
        refine G1 F4 (an k3 (an k3e (an hat (an hlx (an e3 (an d0 (an a44 (an a58 (an z44 (an z58 (an hatn (an hnx (an u0 (an u1 (an u2 tt))))))))))))))) (an pc.go (an qp.go tt)) tt tt ⟨?_⟩
        refine ⟨m - 1, (j + 1, X3), by omega, ⟨by show m - 1 + (j + 1) = vs.length; omega, ?_⟩, ?_, (by first | rfl | trivial)⟩
        · show X3 ++ prL 6 (ns.drop (j + 1)) (vs.drop (j + 1)) (decide (j + 1 = 0)) = A
          rw [hj1, ← ha, ← hX3, ← hX2, ← hX1, hX0]
          simp only [List.append_assoc, List.cons_append, List.nil_append]
        · try unfold ms11_0
          exact A0 tt
      · have d0 : decide ((j : Int) > 0) = true := by rw [decide_eq_true_eq]; omega
        rw [decide_eq_false j0] at ha hal
        try simp only [if_true, Bool.false_eq_true, if_false, List.nil_append, List.length_nil, List.length_cons] at ha
        try simp only [if_true, Bool.false_eq_true, if_false, List.nil_append, List.length_nil, List.length_cons] at hal
        obtain ⟨X0, hX0⟩ : ∃ X, ac = X := ⟨_, rfl⟩
        have u0 := bs_append X0 [44]
        have v0 : (X0 ++ [44]).length = X0.length + 1 := by rw [List.length_append]; rfl
        obtain ⟨X1, hX1⟩ : ∃ X, X0 ++ [44] = X := ⟨_, rfl⟩
        rw [hX1] at u0 v0
        have u1 := bs_append X1 qz
        have v1 : (X1 ++ qz).length = X1.length + qz.length := by rw [List.length_append]
        obtain ⟨X2, hX2⟩ : ∃ X, X1 ++ qz = X := ⟨_, rfl⟩
        rw [hX2] at u1 v1
        have u2 := bs_append X2 [58]
        have v2 : (X2 ++ [58]).length = X2.length + 1 := by rw [List.length_append]; rfl
        obtain ⟨X3, hX3⟩ : ∃ X, X2 ++ [58] = X := ⟨_, rfl⟩
        rw [hX3] at u2 v2
        have u3 := bs_append X3 py
        have v3 : (X3 ++ py).length = X3.length + py.length := by rw [List.length_append]
        obtain ⟨X4, hX4⟩ : ∃ X, X3 ++ py = X := ⟨_, rfl⟩
        rw [hX4] at u3 v3
        have hac : ac.length = X0.length := by rw [hX0]
        rw [hX0]
        refine G1 F4 (an k3 (an k3e (an hat (an hlx (an e3 (an d0 (an a44 (an a58 (an z44 (an z58 (an hatn (an hnx (an u0 (an u1 (an u2 (an u3 tt)))))))))))))))) (an pc.go (an qp.go tt)) tt tt ⟨?_⟩
        refine ⟨m - 1, (j + 1, X4), by omega, ⟨by show m - 1 + (j + 1) = vs.length; omega, ?_⟩, ?_, (by first | rfl | trivial)⟩
        · show X4 ++ prL 6 (ns.drop (j + 1)) (vs.drop (j + 1)) (decide (j + 1 = 0)) = A
          rw [hj1, ← ha, ← hX4, ← hX3, ← hX2, ← hX1, hX0]
          simp only [List.append_assoc, List.cons_append, List.nil_append]
        · try unfold ms11_0
          exact A0 tt
    · have hk2 : j = vs.length := by omega
      rw [hk2, List.drop_length] at ha
      rw [prL, List.append_nil] at ha
      subst ha
      have a0 : (⟨#[123]⟩ : ByteArray) = bs [123] := rfl
      have a1 : (⟨#[125]⟩ : ByteArray) = bs [125] := rfl
      have z0 : (#[123] : Array UInt8).size = 1 := rfl
      have z1 : (#[125] : Array UInt8).size = 1 := rfl
      have b0 := bs_append [123] ac
      have b1 := bs_append ([123] ++ ac) [125]
      have v0 : ([123] ++ ac).length = ac.length + 1 := by simp
      obtain ⟨Y, hY⟩ : ∃ Y, [123] ++ ac = Y := ⟨_, rfl⟩
      rw [hY] at b0 b1 v0
      refine G1 F4 (an k3 (an k3e (an a0 (an a1 (an z0 (an z1 (an b0 (an b1 tt)))))))) tt tt tt ⟨?_⟩
      refine R1 tt ⟨?_⟩
      exact end0 (NR.v _) (by rw [← hY]; rfl)
  have c5 : k = 5 := by omega
  subst c5
  rw [if_neg (show ¬ ((5 : Int) = 6) by decide)] at hl ⊢
  obtain ⟨A, hA⟩ : ∃ A, prL 5 ns vs true = A := ⟨_, rfl⟩
  rw [hA] at hl ⊢
  simp only [List.length_cons, List.length_append, List.length_nil] at hl
  refine G1 F4 (an k3 (an k3e tt)) tt tt tt ⟨?_⟩
  refine lavc_loopM ms11_0 (fun m (x : Nat × List UInt8) => m + x.1 = vs.length ∧ x.2 ++ prL 5 (ns.drop x.1) (vs.drop x.1) (decide (x.1 = 0)) = A) (fun x => [(28, ivC x.1), (4, .v (.string (bs x.2)))])
    (fun _ => [Blk.mk [ivC 5, stA t, .vsl ns.length (strs ns) none, .vsl vs.length (cellsL vs) none] 0 true 32, Blk.mk [stA ⟨#[110, 117, 108, 108]⟩, stA ⟨#[102, 97, 108, 115, 101]⟩, stA ⟨#[116, 114, 117, 101]⟩] 0 true 59]) vs.length (0, []) ⟨by show vs.length + 0 = _; omega, hA⟩ ?_ rfl ?_
  · refine ALe.mk ?_
    simp only [ms11_0, putAll, blank, List.foldl_cons, List.foldl_nil, List.set_cons_succ, List.set_cons_zero, List.cons_append, List.nil_append, ALe0, true_or, or_true, and_true, true_and, eq_self, reduceCtorEq, false_or]
    try exact ⟨rfl, rfl⟩
  rintro m ⟨j, ac⟩ ⟨hk, ha⟩
  simp only at hk ha ⊢
  try unfold ms11_0
  refine M1 tt ⟨?_⟩
  refine G1 F1 tt tt tt tt ⟨?_⟩
  refine cnd rfl (fun hc => ?_) (fun hc => ?_)
  · have hkl : j < vs.length := by omega
    rw [prL_step 5 ns vs j hkl] at ha
    have hat := cellsL_at vs j hkl
    have hmem := getD_mem vs j hkl
    have e3 := i64n ((j : Int) + 1) (j + 1) (by omega) (by omega)
    have hj1 : decide (j + 1 = 0) = false := decide_eq_false (by omega)
    rw [if_neg (show ¬ ((5 : Int) = 6) by decide)] at ha
    obtain ⟨y, hy⟩ : ∃ y, vs.getD j default = y := ⟨_, rfl⟩
    rw [hy] at hat ha hmem
    have hal := congrArg List.length ha
    simp only [List.length_append] at hal
    have pc := ih y hmem (hwv y hmem) (hall y hmem) (by omega)
    obtain ⟨k', t', ns', vs'⟩ := y
    unfold vA at pc
    rw [Val.cells] at hat pc
    obtain ⟨py, hpy⟩ : ∃ p, prV (.mk k' t' ns' vs') = p := ⟨_, rfl⟩
    rw [hpy] at ha pc hal
    by_cases j0 : j = 0
    · have d0 : decide ((j : Int) > 0) = false := by rw [decide_eq_false_iff_not]; omega
      rw [decide_eq_true j0] at ha hal
      try simp only [if_true, Bool.false_eq_true, if_false, List.nil_append, List.length_nil, List.length_cons] at ha
      try simp only [if_true, Bool.false_eq_true, if_false, List.nil_append, List.length_nil, List.length_cons] at hal
      obtain ⟨X0, hX0⟩ : ∃ X, ac = X := ⟨_, rfl⟩
      have u0 := bs_append X0 py
      have v0 : (X0 ++ py).length = X0.length + py.length := by rw [List.length_append]
      obtain ⟨X1, hX1⟩ : ∃ X, X0 ++ py = X := ⟨_, rfl⟩
      rw [hX1] at u0 v0
      have hac : ac.length = X0.length := by rw [hX0]
      rw [hX0]
      refine G1 F4 (an k3 (an k3e (an hat (an hlx (an e3 (an d0 (an a44 (an a58 (an z44 (an z58 (an u0 tt))))))))))) (an pc.go tt) tt tt ⟨?_⟩
      refine ⟨m - 1, (j + 1, X1), by omega, ⟨by show m - 1 + (j + 1) = vs.length; omega, ?_⟩, ?_, (by first | rfl | trivial)⟩
      · show X1 ++ prL 5 (ns.drop (j + 1)) (vs.drop (j + 1)) (decide (j + 1 = 0)) = A
        rw [hj1, ← ha, ← hX1, hX0]
        simp only [List.append_assoc, List.cons_append, List.nil_append]
      · try unfold ms11_0
        exact A0 tt
    · have d0 : decide ((j : Int) > 0) = true := by rw [decide_eq_true_eq]; omega
      rw [decide_eq_false j0] at ha hal
      try simp only [if_true, Bool.false_eq_true, if_false, List.nil_append, List.length_nil, List.length_cons] at ha
      try simp only [if_true, Bool.false_eq_true, if_false, List.nil_append, List.length_nil, List.length_cons] at hal
      obtain ⟨X0, hX0⟩ : ∃ X, ac = X := ⟨_, rfl⟩
      have u0 := bs_append X0 [44]
      have v0 : (X0 ++ [44]).length = X0.length + 1 := by rw [List.length_append]; rfl
      obtain ⟨X1, hX1⟩ : ∃ X, X0 ++ [44] = X := ⟨_, rfl⟩
      rw [hX1] at u0 v0
      have u1 := bs_append X1 py
      have v1 : (X1 ++ py).length = X1.length + py.length := by rw [List.length_append]
      obtain ⟨X2, hX2⟩ : ∃ X, X1 ++ py = X := ⟨_, rfl⟩
      rw [hX2] at u1 v1
      have hac : ac.length = X0.length := by rw [hX0]
      rw [hX0]
      refine G1 F4 (an k3 (an k3e (an hat (an hlx (an e3 (an d0 (an a44 (an a58 (an z44 (an z58 (an u0 (an u1 tt)))))))))))) (an pc.go tt) tt tt ⟨?_⟩
      refine ⟨m - 1, (j + 1, X2), by omega, ⟨by show m - 1 + (j + 1) = vs.length; omega, ?_⟩, ?_, (by first | rfl | trivial)⟩
      · show X2 ++ prL 5 (ns.drop (j + 1)) (vs.drop (j + 1)) (decide (j + 1 = 0)) = A
        rw [hj1, ← ha, ← hX2, ← hX1, hX0]
        simp only [List.append_assoc, List.cons_append, List.nil_append]
      · try unfold ms11_0
        exact A0 tt
  · have hk2 : j = vs.length := by omega
    rw [hk2, List.drop_length] at ha
    rw [prL, List.append_nil] at ha
    subst ha
    have a0 : (⟨#[91]⟩ : ByteArray) = bs [91] := rfl
    have a1 : (⟨#[93]⟩ : ByteArray) = bs [93] := rfl
    have z0 : (#[91] : Array UInt8).size = 1 := rfl
    have z1 : (#[93] : Array UInt8).size = 1 := rfl
    have b0 := bs_append [91] ac
    have b1 := bs_append ([91] ++ ac) [93]
    have v0 : ([91] ++ ac).length = ac.length + 1 := by simp
    obtain ⟨Y, hY⟩ : ∃ Y, [91] ++ ac = Y := ⟨_, rfl⟩
    rw [hY] at b0 b1 v0
    refine G1 F4 (an k3 (an k3e (an a0 (an a1 (an z0 (an z1 (an b0 (an b1 tt)))))))) tt tt tt ⟨?_⟩
    refine R1 tt ⟨?_⟩
    exact end0 (NR.v _) (by rw [← hY]; rfl)
end Go.Abs.S
namespace Go.Abs.S
attribute [local go_sem] lguard aopO aop aenv toAV tput aLoad aStore vcells aBin aNilI aUn aAlloc aBox aBuild aBSlice afill aConv isIntT aappZ aCap aArr aMM aMake aSlice bnd3 bnd aFldAddr aFld aIdxAddr aIdx aExt aLen aCopy aEq0 bAV aUb aapp aappQ agh acont List.getD_cons_zero List.getD_cons_succ List.set_cons_zero List.set_cons_succ List.getElem?_cons_zero List.getElem?_cons_succ List.length_cons List.length_nil List.map_cons List.map_nil ints_length if_true if_false Bool.false_eq_true true_and and_true eq_self ne_eq not_false_eq_true not_true_eq_false beq_self_eq_true Nat.zero_add Nat.add_zero Nat.mul_one Nat.zero_mul Int.toNat_natCast List.toList_toArray List.all_cons List.all_nil AV.one Value.oneCell' Bool.and_true Bool.true_and forall_const true_implies false_implies implies_true Option.map_some Option.map_none Option.isSome_some Option.isSome_none imp_self rdP_flat rdP_row splice_one ints_set ints_get List.append_nil List.cons_append List.nil_append List.getElem?_toArray List.drop_zero ints_drop ints_take List.take_of_length_le splice_all ints_one Option.some.injEq Option.getD_some List.length_replicate zArr List.map_replicate rep_ints splice_intsR List.length_set List.length_append List.flatten_replicate_singleton rep_slice rep_string rep_bool rep_iface List.replicate_zero if_pos if_neg List.mapM_cons List.mapM_nil Option.pure_def Option.bind_eq_bind Option.bind_some Bool.true_eq_false Bool.not_false Bool.not_true get_concat set_concat
open Go.Proofs
set_option linter.unusedVariables false
set_option linter.unusedSimpArgs false
set_option maxRecDepth 100000
set_option maxHeartbeats 8000000
abbrev rB (k : Int) (t : ByteArray) (ns : List ByteArray) (vs : List Val) : Blk := ⟨[ivC k, stA t, .vsl ns.length (strs ns) none, .vsl vs.length (cellsL vs) none], 0, true, 26⟩
abbrev rZ : Blk := ⟨[ivC 0, stA ⟨#[]⟩, nlA, nlA], 0, true, 32⟩
/-- Memory while a value's values are taken over. -/
def HV (k : Int) (t : ByteArray) (ns : List ByteArray) (vs us : List Val) (X : Blk) (gg : AHeap) : AHeap := if us = [] then [rB k t ns vs, rZ, ⟨[ivC k, stA t, .vsl ns.length (strs ns) none, nlA], 0, true, 32⟩]
  else rB k t ns vs :: rZ :: ⟨[ivC k, stA t, .vsl ns.length (strs ns) none, .sl 4 (us.length - 1) 0 us.length us.length 4 false], 0, true, 32⟩ :: X :: ⟨cellsL us, us.length - 1, true, 32⟩ :: gg
theorem HV_cons (k : Int) (t : ByteArray) (ns : List ByteArray) (vs us : List Val) (h : us ≠ []) (X : Blk) (gg : AHeap) : HV k t ns vs us X gg = rB k t ns vs :: rZ :: ⟨[ivC k, stA t, .vsl ns.length (strs ns) none, .sl 4 (us.length - 1) 0 us.length us.length 4 false], 0, true, 32⟩ :: X :: ⟨cellsL us, us.length - 1, true, 32⟩ :: gg := if_neg h
theorem slV {H : AHeap} {lo b ver : Nat} {e : TypeId} (vs : List Val) (hlo : lo ≤ b) (hb : H[b]? = some ⟨cellsL vs, ver, true, e⟩) : View lo H (.sl b ver 0 vs.length vs.length 4 false) (.vsl vs.length (cellsL vs) none) := by
  have hl := cellsL_length vs
  have := View.sl (x := false) (lo := lo) (off := 0) (len := vs.length) (cap := vs.length) (sz := 4) hlo hb rfl rfl (Nat.le_refl _) (by show 0 + vs.length * 4 ≤ (cellsL vs).length; omega) (cellsL_nr vs)
  simp only [List.drop_zero] at this
  rw [List.take_of_length_le (by omega)] at this
  exact this
theorem ref_p : ∀ v : Val, small v → PCall Tryz.prog glob 8 [vA v] (vA v) := Val.ind fun k t ns vs ih hsm => by
  obtain ⟨⟨ht, hn, hz, hv⟩, hall⟩ := hsm.at
  have hlx := cellsL_length vs
  have hnx := strs_length ns
  refine PCall.of ctx.nr (List.forall_mem_cons.2 ⟨NR.vA _, fun _ h => absurd h List.not_mem_nil⟩) (NR.vA _) ?_
  refine lcall8 (by simp) 0 (Nat.le_refl _) ?_
  unfold vA
  rw [Val.cells]
  unfold lc8
  refine I1 tt ⟨?_⟩
  refine G1 F4 tt tt tt tt ⟨?_⟩
  refine lavc_loopM ms8_0 (fun m (x : Nat × Blk × AHeap) => m + x.1 = vs.length) (fun x => [(16, ivC x.1)]) (fun x => HV k t ns vs (vs.take x.1) x.2.1 x.2.2) vs.length (0, rZ, []) (by show vs.length + 0 = _; omega) ?_ rfl ?_
  · refine ALe.mk ?_
    simp only [ms8_0, putAll, blank, List.foldl_cons, List.foldl_nil, List.set_cons_succ, List.set_cons_zero, List.cons_append, List.nil_append, ALe0, true_or, or_true, and_true, true_and, eq_self, reduceCtorEq, false_or]
    try rfl
  rintro m ⟨j, X, gg⟩ hk
  simp only at hk ⊢
  try unfold ms8_0
  refine M1 tt ⟨?_⟩
  refine G1 F1 tt tt tt tt ⟨?_⟩
  refine cnd rfl (fun hc => ?_) (fun hc => ?_)
  · have hkl : j < vs.length := by omega
    have hat := cellsL_at vs j hkl
    have hmem := getD_mem vs j hkl
    have e3 := i64n ((j : Int) + 1) (j + 1) (by omega) (by omega)
    have htk : vs.take (j + 1) = vs.take j ++ [vs.getD j default] := by
      rw [List.take_add_one, List.getD_eq_getElem?_getD, List.getElem?_eq_getElem hkl]
      rfl
    obtain ⟨y, hy⟩ : ∃ y, vs.getD j default = y := ⟨_, rfl⟩
    rw [hy] at hat hmem htk
    have rp := ih y hmem (hall y hmem)
    obtain ⟨k', t', ns', vs'⟩ := y
    unfold vA at rp
    rw [Val.cells] at rp hat
    by_cases j0 : j = 0
    · subst j0
      have e : HV k t ns vs (vs.take 0) X gg = [rB k t ns vs, rZ, ⟨[ivC k, stA t, .vsl ns.length (strs ns) none, nlA], 0, true, 32⟩] := by rw [List.take_zero]; rfl
      rw [e]
      have hat0 : List.take 4 (cellsL vs) = [AV.v (Value.int .i64 k'), stA t', .vsl ns'.length (strs ns') none, .vsl vs'.length (cellsL vs') none] := by simpa using hat
      repeat (first
        | (with_reducible refine lops_step fun K hK => ?_; simp (disch := first | exact dch | fail) only [go_sem, Nat.reduceAdd, Nat.reduceSub, reduceIte, Nat.reduceEqDiff, Int.reduceToNat, Int.reduceBEq, Int.reduceBNe, hat0, hlx, e3, get_concat, set_concat, splice, List.take_succ_cons, List.take_zero, List.drop_succ_cons, List.drop_zero, List.drop_nil, List.cons_append, List.nil_append, List.append_nil, List.length_cons, List.length_nil, List.replicate_succ, List.replicate_zero, List.flatten_cons, List.flatten_nil, Nat.reduceMul, Nat.reduceAdd, Nat.reduceLeDiff]; (try (first | (refine And.intro (fun _ => ?_) (fun h => absurd h (by decide))) | (refine And.intro (fun h => absurd h (by decide)) (fun _ => ?_)))); (repeat (with_reducible refine And.intro acl ?_)); (first | (refine hK _ _ ?_) | (refine ⟨_, rfl, hK _ _ ?_⟩) | (refine Or.inl (hK _ _ ?_)) | (refine ⟨_, _, Or.inl (rp.go _), (by first | exact ⟨[], (List.append_nil _).symm⟩ | exact ⟨_, rfl⟩), hK _ _ ?_⟩) | (refine ⟨_, _, Or.inl (rp.go _), hK _ _ ?_⟩) | (refine ⟨_, _, Or.inl (rp.go _).weakQ, hK _ _ ?_⟩)); clear hK K)
        | (with_reducible refine lops_nil ?_)
        | (with_reducible first | refine lavc_reg ?_ | refine lavc_seq ?_ | refine lavc_block ?_ | refine lavc_skip ?_ | refine lavc_exit ?_ | refine lavc_ret ?_ | refine lavcR_round ?_)
        | (refine lavc_cond rfl (fun _ => ?_) (fun hc => absurd hc (by decide)))
        | (refine lavc_cond rfl (fun hc => absurd hc (by decide)) (fun _ => ?_))
        | (simp only [↓reduceIte, Nat.reduceEqDiff, reduceCtorEq]))
      have hc1 : cellsL [Val.mk k' t' ns' vs'] = [AV.v (Value.int .i64 k'), stA t', .vsl ns'.length (strs ns') none, .vsl vs'.length (cellsL vs') none] := by rw [cellsL, cellsL, Val.cells, List.append_nil]
      refine ⟨m - 1, (0 + 1, ⟨[AV.v (Value.int .i64 k'), stA t', .vsl ns'.length (strs ns') none, .vsl vs'.length (cellsL vs') none], 0, true, 26⟩, []), by omega, by show m - 1 + (0 + 1) = vs.length; omega, ?_, ?_⟩
      · try unfold ms8_0
        exact A0 tt
      · show _ = HV k t ns vs (vs.take (0 + 1)) _ _
        rw [htk, List.take_zero, List.nil_append, HV_cons _ _ _ _ _ (List.cons_ne_nil _ _), hc1]
        rfl
    · have hul : (vs.take j).length = j := by rw [List.length_take]; omega
      have hne : vs.take j ≠ [] := fun h => by rw [h] at hul; exact j0 hul.symm
      have hlu := cellsL_length (vs.take j)
      rw [hul] at hlu
      have htu : List.take (j * 4) (cellsL (vs.take j)) = cellsL (vs.take j) := List.take_of_length_le (by omega)
      have hxs : cellsL (vs.take (j + 1)) = cellsL (vs.take j) ++ [AV.v (Value.int .i64 k'), stA t', .vsl ns'.length (strs ns') none, .vsl vs'.length (cellsL vs') none] := by rw [htk, cellsL_append, cellsL, cellsL, Val.cells, List.append_nil]
      have hxs' := hxs.symm
      have en : j - 1 + 1 = j := by omega
      have hul2 : (vs.take (j + 1)).length = j + 1 := by rw [List.length_take]; omega
      have hne2 : vs.take (j + 1) ≠ [] := fun h => by rw [h] at hul2; cases hul2
      rw [HV_cons _ _ _ _ _ hne, hul]
      repeat (first
        | (with_reducible refine lops_step fun K hK => ?_; simp (disch := first | exact dch | fail) only [go_sem, Nat.reduceAdd, Nat.reduceSub, reduceIte, Nat.reduceEqDiff, Int.reduceToNat, Int.reduceBEq, Int.reduceBNe, hat, hlx, hlu, htu, hxs', en, e3, get_concat, set_concat, splice, List.take_succ_cons, List.take_zero, List.drop_succ_cons, List.drop_zero, List.drop_nil, List.cons_append, List.nil_append, List.append_nil, List.length_cons, List.length_nil, List.replicate_succ, List.replicate_zero, List.flatten_cons, List.flatten_nil, Nat.reduceMul, Nat.reduceAdd, Nat.reduceLeDiff]; (try (first | (refine And.intro (fun _ => ?_) (fun h => absurd h (by decide))) | (refine And.intro (fun h => absurd h (by decide)) (fun _ => ?_)))); (repeat (with_reducible refine And.intro acl ?_)); (first | (refine hK _ _ ?_) | (refine ⟨_, rfl, hK _ _ ?_⟩) | (refine Or.inl (hK _ _ ?_)) | (refine ⟨_, _, Or.inl (rp.go _), (by first | exact ⟨[], (List.append_nil _).symm⟩ | exact ⟨_, rfl⟩), hK _ _ ?_⟩) | (refine ⟨_, _, Or.inl (rp.go _), hK _ _ ?_⟩) | (refine ⟨_, _, Or.inl (rp.go _).weakQ, hK _ _ ?_⟩)); clear hK K)
        | (with_reducible refine lops_nil ?_)
        | (with_reducible first | refine lavc_reg ?_ | refine lavc_seq ?_ | refine lavc_block ?_ | refine lavc_skip ?_ | refine lavc_exit ?_ | refine lavc_ret ?_ | refine lavcR_round ?_)
        | (refine lavc_cond rfl (fun _ => ?_) (fun hc => absurd hc (by decide)))
        | (refine lavc_cond rfl (fun hc => absurd hc (by decide)) (fun _ => ?_))
        | (simp only [↓reduceIte, Nat.reduceEqDiff, reduceCtorEq]))
      refine ⟨m - 1, (j + 1, X, gg ++ [⟨[AV.v (Value.int .i64 k'), stA t', .vsl ns'.length (strs ns') none, .vsl vs'.length (cellsL vs') none], 0, true, 26⟩]), by omega, by show m - 1 + (j + 1) = vs.length; omega, ?_, ?_⟩
      · try unfold ms8_0
        exact A0 tt
      · show _ = HV k t ns vs (vs.take (j + 1)) X (gg ++ _)
        rw [HV_cons _ _ _ _ _ hne2, hul2]
        rfl
  · have hk2 : j = vs.length := by omega
    subst hk2
    rw [List.take_length]
    by_cases hv0 : vs = []
    · subst hv0
      have e : HV k t ns [] [] X gg = [rB k t ns [], rZ, ⟨[ivC k, stA t, .vsl ns.length (strs ns) none, nlA], 0, true, 32⟩] := rfl
      rw [e]
      refine G1 F4 tt tt tt tt ⟨?_⟩
      refine R1 tt ⟨?_⟩
      refine endV (.agg rfl fun j hj => ?_)
      match j, hj with
      | 0, _ => exact .nr (NR.v _)
      | 1, _ => exact .nr (NR.v _)
      | 2, _ => exact .nr (NR.vsl (NR.strs _))
      | 3, _ => exact .nil
    · rw [HV_cons _ _ _ _ _ hv0]
      refine G1 F4 tt tt tt tt ⟨?_⟩
      refine R1 tt ⟨?_⟩
      refine endV (.agg rfl fun j hj => ?_)
      match j, hj with
      | 0, _ => exact .nr (NR.v _)
      | 1, _ => exact .nr (NR.v _)
      | 2, _ => exact .nr (NR.vsl (NR.strs _))
      | 3, _ => exact slV vs (Nat.zero_le 4) rfl
end Go.Abs.S
namespace Go.Abs.S
attribute [local go_sem] lguard aopO aop aenv toAV tput aLoad aStore vcells aBin aNilI aUn aAlloc aBox aBuild aBSlice afill aConv isIntT aappZ aCap aArr aMM aMake aSlice bnd3 bnd aFldAddr aFld aIdxAddr aIdx aExt aLen aCopy aEq0 bAV aUb aapp aappQ agh acont List.getD_cons_zero List.getD_cons_succ List.set_cons_zero List.set_cons_succ List.getElem?_cons_zero List.getElem?_cons_succ List.length_cons List.length_nil List.map_cons List.map_nil ints_length if_true if_false Bool.false_eq_true true_and and_true eq_self ne_eq not_false_eq_true not_true_eq_false beq_self_eq_true Nat.zero_add Nat.add_zero Nat.mul_one Nat.zero_mul Int.toNat_natCast List.toList_toArray List.all_cons List.all_nil AV.one Value.oneCell' Bool.and_true Bool.true_and forall_const true_implies false_implies implies_true Option.map_some Option.map_none Option.isSome_some Option.isSome_none imp_self rdP_flat rdP_row splice_one ints_set ints_get List.append_nil List.cons_append List.nil_append List.getElem?_toArray List.drop_zero ints_drop ints_take List.take_of_length_le splice_all ints_one Option.some.injEq Option.getD_some List.length_replicate zArr List.map_replicate rep_ints splice_intsR List.length_set List.length_append List.flatten_replicate_singleton rep_slice rep_string rep_bool rep_iface List.replicate_zero if_pos if_neg List.mapM_cons List.mapM_nil Option.pure_def Option.bind_eq_bind Option.bind_some Bool.true_eq_false Bool.not_false Bool.not_true get_concat set_concat
open Go.Proofs
set_option linter.unusedVariables false
set_option linter.unusedSimpArgs false
set_option maxRecDepth 100000
set_option maxHeartbeats 8000000
mutual
def fewV : Val → Int → Bool
  | .mk k t ns vs, d => if d = 0 ∨ 100 < t.size ∨ 80 < ns.length ∨ 80 < vs.length then false else (ns.all fun s => decide (s.size ≤ 60)) && fewVL vs (d - 1)
def fewVL : List Val → Int → Bool
  | [], _ => true
  | v :: l, d => fewV v d && fewVL l d
end
theorem fewVL_step (l : List Val) (k : Nat) (h : k < l.length) (d : Int) : fewVL (l.drop k) d = (fewV (l.getD k default) d && fewVL (l.drop (k + 1)) d) := by
  rw [List.drop_eq_getElem_cons h, fewVL, List.getD_eq_getElem?_getD, List.getElem?_eq_getElem h]
  rfl
theorem alln_step (p : ByteArray → Bool) (l : List ByteArray) (k : Nat) (h : k < l.length) : (l.drop k).all p = (p (l.getD k ⟨#[]⟩) && (l.drop (k + 1)).all p) := by
  rw [List.drop_eq_getElem_cons h, List.all_cons, List.getD_eq_getElem?_getD, List.getElem?_eq_getElem h]
  rfl
theorem few_p : ∀ v : Val, ∀ d : Int, 0 ≤ d → d ≤ 12 → PCall Tryz.prog glob 6 [vA v, ivC d] (.v (.bool (fewV v d))) := Val.ind fun k t ns vs ih d hd0 hd1 => by
  have hlx := cellsL_length vs
  have hnx := strs_length ns
  refine PCall.of ctx.nr (List.forall_mem_cons.2 ⟨NR.vA _, List.forall_mem_cons.2 ⟨NR.v _, fun _ h => absurd h List.not_mem_nil⟩⟩) (NR.v _) ?_
  refine lcall6 (by simp) 0 (Nat.le_refl _) ?_
  rw [fewV]
  unfold vA
  rw [Val.cells]
  unfold lc6
  refine I1 tt ⟨?_⟩
  by_cases h0 : d = 0
  · rw [if_pos (.inl h0)]
    have q0 : ((d : Int) == 0) = true := by rw [beq_iff_eq]; omega
    refine G1 F4 (an q0 tt) tt tt tt ⟨?_⟩
    refine R1 tt ⟨?_⟩
    exact end0 (NR.v _) rfl
  have q0 : ((d : Int) == 0) = false := by rw [beq_eq_false_iff_ne, ne_eq]; omega
  by_cases h1 : 100 < t.size
  · rw [if_pos (.inr (.inl h1))]
    have q1 : decide ((t.size : Int) > 100) = true := by rw [decide_eq_true_eq]; omega
    refine G1 F4 (an q0 (an q1 tt)) tt tt tt ⟨?_⟩
    refine R1 tt ⟨?_⟩
    exact end0 (NR.v _) rfl
  have q1 : decide ((t.size : Int) > 100) = false := by rw [decide_eq_false_iff_not]; omega
  by_cases h2 : 80 < ns.length
  · rw [if_pos (.inr (.inr (.inl h2)))]
    have q2 : decide ((ns.length : Int) > 80) = true := by rw [decide_eq_true_eq]; omega
    refine G1 F4 (an q0 (an q1 (an q2 tt))) tt tt tt ⟨?_⟩
    refine R1 tt ⟨?_⟩
    exact end0 (NR.v _) rfl
  have q2 : decide ((ns.length : Int) > 80) = false := by rw [decide_eq_false_iff_not]; omega
  by_cases h3 : 80 < vs.length
  · rw [if_pos (.inr (.inr (.inr h3)))]
    have q3 : decide ((vs.length : Int) > 80) = true := by rw [decide_eq_true_eq]; omega
    refine G1 F4 (an q0 (an q1 (an q2 (an q3 tt)))) tt tt tt ⟨?_⟩
    refine R1 tt ⟨?_⟩
    exact end0 (NR.v _) rfl
  have q3 : decide ((vs.length : Int) > 80) = false := by rw [decide_eq_false_iff_not]; omega
  rw [if_neg (by omega)]
  obtain ⟨V, hV⟩ : ∃ V, ((ns.all fun s => decide (s.size ≤ 60)) && fewVL vs (d - 1)) = V := ⟨_, rfl⟩
  rw [hV]
  refine G1 F4 (an q0 (an q1 (an q2 (an q3 tt)))) tt tt tt ⟨?_⟩
  refine lavc_loopM ms6_0 (fun m (j : Nat) => m + j = ns.length ∧ (((ns.drop j).all fun s => decide (s.size ≤ 60)) && fewVL vs (d - 1)) = V) (fun j => [(32, ivC j)]) (fun _ => [Blk.mk [ivC k, stA t, .vsl ns.length (strs ns) none, .vsl vs.length (cellsL vs) none] 0 true 26]) ns.length 0 ⟨by omega, hV⟩ ?_ rfl ?_
  · try unfold ms6_0
    refine A1 tt ⟨?_⟩
    rfl
  rintro m j ⟨hk, hi⟩
  try simp only at hk hi ⊢
  try unfold ms6_0
  refine M1 tt ⟨?_⟩
  refine G1 F1 tt tt tt tt ⟨?_⟩
  refine cnd rfl (fun hc => ?_) (fun hc => ?_)
  · have hkl : j < ns.length := by omega
    have hat := strs_at ns j hkl
    rw [alln_step _ ns j hkl] at hi
    have e3 := i64n ((j : Int) + 1) (j + 1) (by omega) (by omega)
    obtain ⟨y, hy⟩ : ∃ y, ns.getD j ⟨#[]⟩ = y := ⟨_, rfl⟩
    rw [hy] at hat hi
    by_cases h6 : y.size ≤ 60
    · rw [decide_eq_true h6, Bool.true_and] at hi
      have q6 : decide ((y.size : Int) > 60) = false := by rw [decide_eq_false_iff_not]; omega
      refine G1 F4 (an hat (an e3 (an q6 tt))) tt tt tt ⟨?_⟩
      refine ⟨m - 1, j + 1, by omega, ⟨by omega, hi⟩, ?_, (by first | rfl | trivial)⟩
      try unfold ms6_0
      exact A0 tt
    · rw [decide_eq_false h6, Bool.false_and, Bool.false_and] at hi
      have q6 : decide ((y.size : Int) > 60) = true := by rw [decide_eq_true_eq]; omega
      refine G1 F4 (an hat (an e3 (an q6 tt))) tt tt tt ⟨?_⟩
      refine R1 tt ⟨?_⟩
      exact end0 (NR.v _) (by rw [← hi])
  have hk2 : j = ns.length := by omega
  rw [hk2, List.drop_length, List.all_nil, Bool.true_and] at hi
  clear hk hk2 hc hV
  refine G1 F4 tt tt tt tt ⟨?_⟩
  refine lavc_loopM ms6_1 (fun m (x : Nat × AHeap) => m + x.1 = vs.length ∧ fewVL (vs.drop x.1) (d - 1) = V) (fun x => [(43, ivC x.1)]) (fun x => Blk.mk [ivC k, stA t, .vsl ns.length (strs ns) none, .vsl vs.length (cellsL vs) none] 0 true 26 :: x.2) vs.length (0, []) ⟨by show vs.length + 0 = _; omega, hi⟩ ?_ rfl ?_
  · try unfold ms6_1
    refine A1 tt ⟨?_⟩
    rfl
  rintro m ⟨j, gg⟩ ⟨hk, hi⟩
  try simp only at hk hi ⊢
  try unfold ms6_1
  refine M1 tt ⟨?_⟩
  refine G1 F1 tt tt tt tt ⟨?_⟩
  refine cnd rfl (fun hc => ?_) (fun hc => ?_)
  · have hkl : j < vs.length := by omega
    have hat := cellsL_at vs j hkl
    rw [fewVL_step vs j hkl] at hi
    have hmem := getD_mem vs j hkl
    obtain ⟨y, hy⟩ : ∃ y, vs.getD j default = y := ⟨_, rfl⟩
    rw [hy] at hat hi hmem
    have fp := ih y hmem (d - 1) (by omega) (by omega)
    have e3 := i64n ((j : Int) + 1) (j + 1) (by omega) (by omega)
    have e2 := i64z (d - 1) (by omega)
    obtain ⟨w, hw⟩ : ∃ w, fewV y (d - 1) = w := ⟨_, rfl⟩
    rw [hw] at fp hi
    obtain ⟨k', t', ns', vs'⟩ := y
    unfold vA at fp
    rw [Val.cells] at fp hat
    cases w with
    | true =>
      rw [Bool.true_and] at hi
      refine G1 F4 (an hat (an hlx (an e2 (an e3 tt)))) (an fp.go tt) tt tt ⟨?_⟩
      refine ⟨m - 1, (j + 1, gg ++ [⟨[ivC k', stA t', .vsl ns'.length (strs ns') none, .vsl vs'.length (cellsL vs') none], 0, true, 26⟩]), by omega, ⟨by show m - 1 + (j + 1) = vs.length; omega, hi⟩, ?_, (by first | rfl | trivial)⟩
      try unfold ms6_1
      exact A0 tt
    | false =>
      rw [Bool.false_and] at hi
      refine G1 F4 (an hat (an hlx (an e2 (an e3 tt)))) (an fp.go tt) tt tt ⟨?_⟩
      refine R1 tt ⟨?_⟩
      exact end0 (NR.v _) (by rw [← hi])
  · have hk2 : j = vs.length := by omega
    rw [hk2, List.drop_length] at hi
    refine G1 F4 tt tt tt tt ⟨?_⟩
    refine R1 tt ⟨?_⟩
    exact end0 (NR.v _) (by rw [← hi]; rfl)
theorem fewVL_all : ∀ (l : List Val) (d : Int), fewVL l d = true → ∀ v ∈ l, fewV v d = true
  | [], _, _, v, hv => absurd hv List.not_mem_nil
  | x :: l, d, h, v, hv => by
    rw [fewVL, Bool.and_eq_true] at h
    rcases List.mem_cons.1 hv with rfl | hv
    · exact h.1
    · exact fewVL_all l d h.2 v hv
/-- What such a value is like. -/
theorem few_at {k : Int} {t : ByteArray} {ns : List ByteArray} {vs : List Val} {d : Int} (h : fewV (.mk k t ns vs) d = true) : t.size ≤ 100 ∧ ns.length ≤ 80 ∧ vs.length ≤ 80 ∧ (∀ s ∈ ns, s.size ≤ 60) ∧ ∀ v ∈ vs, fewV v (d - 1) = true := by
  rw [fewV] at h
  by_cases c : d = 0 ∨ 100 < t.size ∨ 80 < ns.length ∨ 80 < vs.length
  · rw [if_pos c] at h
    cases h
  · rw [if_neg c, Bool.and_eq_true, List.all_eq_true] at h
    exact ⟨by omega, by omega, by omega, fun s hs => of_decide_eq_true (h.1 s hs), fewVL_all vs _ h.2⟩
theorem few_tiny : ∀ (v : Val) (d : Int), fewV v d = true → tiny v := Val.ind fun k t ns vs ih d h => by
  obtain ⟨h1, h2, h3, h4, h5⟩ := few_at h
  rw [tiny, tinyL_iff]
  exact ⟨⟨by omega, by omega, fun s hs => by have := h4 s hs; omega, by omega⟩, fun v hv => ih v hv (d - 1) (h5 v hv)⟩
end Go.Abs.S
namespace Go.Abs.S
open Go.Proofs
set_option maxRecDepth 100000
def impCodS : FuncId → Bool := fun f => f == 17 || f == 18 || f == 19 || f == 20 || f == 21 || f == 29 || f == 31 || f == 32 || f == 33 || f == 34 || f == 40 || f == 46 || f == 47 || f == 68
/-- escutcheon/page.Same -/
def lc12 : LCode := .seq (.reg []
  [o1 2 (.box 26 (.tmp 0)),
  o1 3 (.box 26 (.tmp 1)),
  o1 4 (.assign (.const (.bool false)))]) (.seq (.reg []
  [o1 5 (.fieldAddr 26 (.tmp 2) 0),
  o1 6 (.load 22 (.tmp 5)),
  o1 7 (.fieldAddr 26 (.tmp 3) 0),
  o1 8 (.load 22 (.tmp 7)),
  o1 9 (.binOp .eql 22 (.tmp 6) (.tmp 8) 22),
  o1 10 (.move (.tmp 9)),
  o2 11 (.fieldAddr 26 (.tmp 2) 1) 10 true,
  o2 12 (.load 9 (.tmp 11)) 10 true,
  o2 13 (.fieldAddr 26 (.tmp 3) 1) 10 true,
  o2 14 (.load 9 (.tmp 13)) 10 true,
  o2 15 (.binOp .eql 9 (.tmp 12) (.tmp 14) 9) 10 true,
  o1 16 (.pick (.tmp 10) (.tmp 15) (.const (.bool false))),
  o1 17 (.move (.tmp 16)),
  o2 18 (.fieldAddr 26 (.tmp 2) 2) 17 true,
  o2 19 (.load 23 (.tmp 18)) 17 true,
  o2 20 (.fieldAddr 26 (.tmp 3) 2) 17 true,
  o2 21 (.load 23 (.tmp 20)) 17 true,
  o2 22 (.call ⟨.value (.func 23), #[.tmp 19, .tmp 21], #[23, 23]⟩) 17 true,
  o1 23 (.pick (.tmp 17) (.tmp 22) (.const (.bool false))),
  o1 24 (.move (.tmp 23)),
  o2 25 (.fieldAddr 26 (.tmp 2) 3) 24 true,
  o2 26 (.load 24 (.tmp 25)) 24 true,
  o2 27 (.fieldAddr 26 (.tmp 3) 3) 24 true,
  o2 28 (.load 24 (.tmp 27)) 24 true,
  o2 29 (.call ⟨.value (.func 24), #[.tmp 26, .tmp 28, .func 12], #[24, 24, 42]⟩) 24 true,
  o1 30 (.pick (.tmp 24) (.tmp 29) (.const (.bool false))),
  o1 4 (.assign (.tmp 30))]) (.ret))
/-- slices.Equal[[]string,string] -/
def lc23 : LCode := .seq (.reg []
  [o1 4 (.assign (.const (.bool false)))]) (.seq (.seq (.reg []
  [o1 6 (.move (.tmp 0)),
  o1 7 (.call ⟨.builtin .len, #[.tmp 6], #[23]⟩),
  o1 8 (.move (.tmp 1)),
  o1 9 (.call ⟨.builtin .len, #[.tmp 8], #[23]⟩),
  o1 10 (.binOp .neq 3 (.tmp 7) (.tmp 9) 3)]) (.cond (.tmp 10) (.seq (.reg []
  [o1 4 (.assign (.const (.bool false)))]) (.ret)) (.skip))) (.seq (.seq (.reg []
  [o1 11 (.move (.tmp 0)),
  o1 12 (.call ⟨.builtin .len, #[.tmp 11], #[23]⟩),
  o1 13 (.move (.const (.int .i64 0)))]) (.block 0 (.loop (.seq (.reg []
  [o1 14 (.binOp .lss 3 (.tmp 13) (.tmp 12) 3)]) (.seq (.cond (.tmp 14) (.skip) (.exit 0)) (.seq (.block 1 (.seq (.reg []
  [o1 15 (.move (.tmp 13)),
  o1 5 (.assign (.tmp 15))]) (.seq (.reg [o1 16 (.move (.tmp 0)),
  o1 17 (.move (.tmp 5)),
  o1 18 (.indexAddr 23 (.tmp 16) (.tmp 17)),
  o1 19 (.load 9 (.tmp 18)),
  o1 20 (.move (.tmp 1)),
  o1 21 (.move (.tmp 5)),
  o1 22 (.indexAddr 23 (.tmp 20) (.tmp 21)),
  o1 23 (.load 9 (.tmp 22)),
  o1 24 (.binOp .neq 9 (.tmp 19) (.tmp 23) 9)]
  []) (.cond (.tmp 24) (.seq (.reg []
  [o1 4 (.assign (.const (.bool false)))]) (.ret)) (.skip))))) (.reg []
  [o1 25 (.binOp .add 3 (.tmp 13) (.const (.int .i64 1)) 3),
  o1 13 (.move (.tmp 25))]))))))) (.seq (.reg []
  [o1 4 (.assign (.const (.bool true)))]) (.ret))))
def ms23_0 : List Nat := [2, 3, 4, 5, 6, 7, 8, 9, 10, 11, 13, 14, 15, 16, 17, 18, 19, 20, 21, 22, 23, 24, 25]
/-- slices.EqualFunc[[]escutcheon/page.Value,[]escutcheon/page.Value,escutcheon/page.Value,escutcheon/page.Value] -/
def lc24 : LCode := .seq (.reg []
  [o1 6 (.assign (.const (.bool false)))]) (.seq (.seq (.reg []
  [o1 10 (.move (.tmp 0)),
  o1 11 (.call ⟨.builtin .len, #[.tmp 10], #[24]⟩),
  o1 12 (.move (.tmp 1)),
  o1 13 (.call ⟨.builtin .len, #[.tmp 12], #[24]⟩),
  o1 14 (.binOp .neq 3 (.tmp 11) (.tmp 13) 3)]) (.cond (.tmp 14) (.seq (.reg []
  [o1 6 (.assign (.const (.bool false)))]) (.ret)) (.skip))) (.seq (.seq (.reg []
  [o1 15 (.move (.tmp 0)),
  o1 16 (.call ⟨.builtin .len, #[.tmp 15], #[24]⟩),
  o1 17 (.move (.const (.int .i64 0)))]) (.block 0 (.loop (.seq (.reg []
  [o1 18 (.binOp .lss 3 (.tmp 17) (.tmp 16) 3)]) (.seq (.cond (.tmp 18) (.skip) (.exit 0)) (.seq (.block 1 (.seq (.reg []
  [o1 19 (.move (.tmp 17)),
  o1 20 (.indexAddr 24 (.tmp 15) (.tmp 17)),
  o1 21 (.load 26 (.tmp 20)),
  o1 8 (.alloc 26),
  o1 7 (.assign (.tmp 19)),
  o3 (.store 26 (.tmp 8) (.tmp 21))]) (.seq (.reg []
  [o1 22 (.move (.tmp 1)),
  o1 23 (.move (.tmp 7)),
  o1 24 (.indexAddr 24 (.tmp 22) (.tmp 23)),
  o1 25 (.load 26 (.tmp 24)),
  o1 9 (.alloc 26),
  o3 (.store 26 (.tmp 9) (.tmp 25))]) (.seq (.reg []
  [o1 26 (.move (.tmp 2)),
  o1 27 (.load 26 (.tmp 8)),
  o1 28 (.load 26 (.tmp 9)),
  o1 29 (.call ⟨.value (.tmp 26), #[.tmp 27, .tmp 28], #[26, 26]⟩),
  o1 30 (.unOp .not 4 (.tmp 29))]) (.cond (.tmp 30) (.seq (.reg []
  [o1 6 (.assign (.const (.bool false)))]) (.ret)) (.skip)))))) (.reg []
  [o1 31 (.binOp .add 3 (.tmp 17) (.const (.int .i64 1)) 3),
  o1 17 (.move (.tmp 31))]))))))) (.seq (.reg []
  [o1 6 (.assign (.const (.bool true)))]) (.ret))))
def ms24_0 : List Nat := [0, 3, 4, 5, 6, 7, 8, 9, 10, 11, 12, 13, 14, 17, 18, 19, 20, 21, 22, 23, 24, 25, 26, 27, 28, 29, 30, 31]
end Go.Abs.S
namespace Go.Abs.S
attribute [local go_sem] lguard aopO aop aenv toAV tput aLoad aStore vcells aBin aNilI aUn aAlloc aBox aBuild aBSlice afill aConv isIntT aappZ aCap aArr aMM aMake aSlice bnd3 bnd aFldAddr aFld aIdxAddr aIdx aExt aLen aCopy aEq0 bAV aUb aapp aappQ agh acont List.getD_cons_zero List.getD_cons_succ List.set_cons_zero List.set_cons_succ List.getElem?_cons_zero List.getElem?_cons_succ List.length_cons List.length_nil List.map_cons List.map_nil ints_length if_true if_false Bool.false_eq_true true_and and_true eq_self ne_eq not_false_eq_true not_true_eq_false beq_self_eq_true Nat.zero_add Nat.add_zero Nat.mul_one Nat.zero_mul Int.toNat_natCast List.toList_toArray List.all_cons List.all_nil AV.one Value.oneCell' Bool.and_true Bool.true_and forall_const true_implies false_implies implies_true Option.map_some Option.map_none Option.isSome_some Option.isSome_none imp_self rdP_flat rdP_row splice_one ints_set ints_get List.append_nil List.cons_append List.nil_append List.getElem?_toArray List.drop_zero ints_drop ints_take List.take_of_length_le splice_all ints_one Option.some.injEq Option.getD_some List.length_replicate zArr List.map_replicate rep_ints splice_intsR List.length_set List.length_append List.flatten_replicate_singleton rep_slice rep_string rep_bool rep_iface List.replicate_zero if_pos if_neg List.mapM_cons List.mapM_nil Option.pure_def Option.bind_eq_bind Option.bind_some Bool.true_eq_false Bool.not_false Bool.not_true get_concat set_concat
open Go.Proofs
open Classical
set_option linter.unusedVariables false
set_option linter.unusedSimpArgs false
set_option maxRecDepth 100000
set_option maxHeartbeats 4000000
/-- Whether two are the same. -/
noncomputable def eqV (a b : Val) : Bool := decide (a = b)
noncomputable def eqN (a b : List ByteArray) : Bool := decide (a = b)
noncomputable def eqVs (a b : List Val) : Bool := decide (a = b)
abbrev SameF : AV := .fn (.func 12) []
theorem SameF.nr : NR SameF := fun σ w u h => by
  cases h with
  | fn us hl ha => exact .fn us hl (fun j hj => absurd hj (Nat.not_lt_zero _))
end Go.Abs.S
namespace Go.Abs.S
open Go.Proofs
open Classical
set_option linter.unusedVariables false
set_option linter.unusedSimpArgs false
set_option maxRecDepth 100000
set_option maxHeartbeats 8000000
theorem avle_ag {xs ys : List AV} (h : AvLs xs ys) : AvLe (.agg xs) (.agg ys) := fun σ w u hu => by
  cases hu with
  | agg us hl ha => exact .agg us (hl.trans h.length) (fun j hj => h.get j (by have := h.length; omega) _ _ _ (ha j (by have := h.length; omega)))
end Go.Abs.S
namespace Go.Abs.S
open Go.Proofs
set_option maxRecDepth 100000
def impCodL : FuncId → Bool := fun f => f == 17 || f == 18 || f == 19 || f == 20 || f == 21 || f == 29 || f == 31 || f == 32 || f == 33 || f == 34 || f == 40 || f == 46 || f == 47 || f == 68
/-- escutcheon/escutcheonlaw20.PageDeeps -/
def lc3 : LCode := .seq (.reg []
  [o1 5 (.box 26 (.tmp 2)),
  o1 6 (.assign (.const (.bool false)))]) (.seq (.seq (.reg []
  [o1 12 (.call ⟨.value (.func 5), #[], #[]⟩),
  o1 13 (.unOp .not 4 (.tmp 12)),
  o1 14 (.move (.tmp 13)),
  o2 15 (.load 26 (.tmp 5)) 14 false,
  o2 16 (.call ⟨.value (.func 6), #[.tmp 15, .const (.int .i64 12)], #[26, 3]⟩) 14 false,
  o2 17 (.unOp .not 4 (.tmp 16)) 14 false,
  o1 18 (.pick (.tmp 14) (.const (.bool true)) (.tmp 17)),
  o1 19 (.move (.tmp 18)),
  o2 20 (.load 26 (.tmp 5)) 19 false,
  o2 21 (.call ⟨.value (.func 8), #[.tmp 20], #[26]⟩) 19 false,
  o2 22 (.call ⟨.value (.func 7), #[.tmp 21, .const (.int .i64 1)], #[32, 3]⟩) 19 false,
  o2 23 (.binOp .neq 3 (.tmp 22) (.const (.int .i64 0)) 3) 19 false,
  o1 24 (.pick (.tmp 19) (.const (.bool true)) (.tmp 23)),
  o1 25 (.move (.tmp 24)),
  o2 26 (.fieldAddr 26 (.tmp 5) 0) 25 false,
  o2 27 (.load 22 (.tmp 26)) 25 false,
  o2 28 (.binOp .geq 22 (.tmp 27) (.const (.int .i64 5)) 22) 25 false,
  o1 29 (.pick (.tmp 25) (.const (.bool true)) (.tmp 28))]) (.cond (.tmp 29) (.seq (.reg []
  [o1 30 (.call ⟨.value (.func 5), #[], #[]⟩),
  o1 6 (.assign (.tmp 30))]) (.ret)) (.skip))) (.seq (.reg []
  [o1 31 (.move (.tmp 0)),
  o1 32 (.binOp .rem 5 (.tmp 31) (.const (.int .u8 12)) 5),
  o1 33 (.convert 5 3 (.tmp 32)),
  o1 7 (.assign (.tmp 33))]) (.seq (.seq (.reg []
  [o1 34 (.move (.tmp 7)),
  o1 35 (.move (.const (.int .i64 0)))]) (.block 0 (.loop (.seq (.reg []
  [o1 36 (.binOp .lss 3 (.tmp 35) (.tmp 34) 3)]) (.seq (.cond (.tmp 36) (.skip) (.exit 0)) (.seq (.block 1 (.seq (.reg []
  [o1 37 (.move (.tmp 1))]) (.cond (.tmp 37) (.reg []
  [o1 38 (.buildSlice 23 1 #[(0, .const (.string { data := #[97] }))]),
  o1 39 (.load 26 (.tmp 5)),
  o1 40 (.buildSlice 24 1 #[(0, .tmp 39)]),
  o1 41 (.build 26 #[(0, .const (.int .i64 6)), (2, .tmp 38), (3, .tmp 40)]),
  o3 (.store 26 (.tmp 5) (.tmp 41))]) (.reg []
  [o1 42 (.load 26 (.tmp 5)),
  o1 43 (.buildSlice 24 1 #[(0, .tmp 42)]),
  o1 44 (.build 26 #[(0, .const (.int .i64 5)), (3, .tmp 43)]),
  o3 (.store 26 (.tmp 5) (.tmp 44))])))) (.reg []
  [o1 45 (.binOp .add 3 (.tmp 35) (.const (.int .i64 1)) 3),
  o1 35 (.move (.tmp 45))]))))))) (.seq (.reg []
  [o1 47 (.load 26 (.tmp 5)),
  o1 48 (.call ⟨.value (.func 9), #[.tmp 47], #[26]⟩),
  o1 46 (.move (.tmp 48)),
  o1 49 (.extract (.tmp 46) 0),
  o1 50 (.extract (.tmp 46) 1),
  o1 8 (.assign (.tmp 49)),
  o1 9 (.assign (.tmp 50))]) (.seq (.reg []
  [o1 52 (.load 26 (.tmp 5)),
  o1 53 (.call ⟨.value (.func 8), #[.tmp 52], #[26]⟩),
  o1 54 (.call ⟨.value (.func 11), #[.tmp 53], #[32]⟩),
  o1 55 (.call ⟨.value (.func 10), #[.tmp 54], #[9]⟩),
  o1 51 (.move (.tmp 55)),
  o1 56 (.extract (.tmp 51) 0),
  o1 57 (.extract (.tmp 51) 1),
  o1 10 (.alloc 26),
  o3 (.store 26 (.tmp 10) (.tmp 56)),
  o1 11 (.assign (.tmp 57))]) (.seq (.seq (.reg []
  [o1 58 (.move (.tmp 7)),
  o1 59 (.binOp .gtr 3 (.tmp 58) (.const (.int .i64 7)) 3)]) (.cond (.tmp 59) (.seq (.reg []
  [o1 60 (.move (.tmp 9)),
  o1 61 (.binOp .eql 34 (.tmp 60) (.const (.int .i64 9)) 34),
  o1 62 (.move (.tmp 61)),
  o2 63 (.move (.tmp 8)) 62 true,
  o2 64 (.binOp .eql 9 (.tmp 63) (.const (.string { data := #[] })) 9) 62 true,
  o1 65 (.pick (.tmp 62) (.tmp 64) (.const (.bool false))),
  o1 66 (.move (.tmp 65)),
  o2 67 (.move (.tmp 11)) 66 true,
  o2 68 (.binOp .eql 34 (.tmp 67) (.const (.int .i64 9)) 34) 66 true,
  o1 69 (.pick (.tmp 66) (.tmp 68) (.const (.bool false))),
  o1 6 (.assign (.tmp 69))]) (.ret)) (.skip))) (.seq (.reg []
  [o1 70 (.move (.tmp 9)),
  o1 71 (.binOp .eql 34 (.tmp 70) (.const (.int .i64 0)) 34),
  o1 72 (.move (.tmp 71)),
  o2 73 (.move (.tmp 11)) 72 true,
  o2 74 (.binOp .eql 34 (.tmp 73) (.const (.int .i64 0)) 34) 72 true,
  o1 75 (.pick (.tmp 72) (.tmp 74) (.const (.bool false))),
  o1 6 (.assign (.tmp 75))]) (.ret))))))))
def ms3_0 : List Nat := [0, 2, 3, 4, 12, 13, 14, 15, 16, 17, 18, 19, 20, 21, 22, 23, 24, 25, 26, 27, 28, 29, 30, 31, 32, 33, 35, 36, 37, 38, 39, 40, 41, 42, 43, 44, 45]
theorem ls3 : Tryz.f3.body.map (strip Tryz.prog impCodL) = some lc3 := by kernel_rfl
theorem lcall3 : LC 3 76 lc3 [.tmp 6] := LC.of Tryz.func3 (by kernel_rfl) ls3 (by kernel_rfl) (by kernel_rfl)
/-- escutcheon/escutcheonlaw20.PageBlanks -/
def lc4 : LCode := .seq (.reg []
  [o1 4 (.assign (.const (.bool false)))]) (.seq (.seq (.reg []
  [o1 11 (.call ⟨.value (.func 5), #[], #[]⟩),
  o1 12 (.unOp .not 4 (.tmp 11)),
  o1 13 (.move (.tmp 12)),
  o2 14 (.move (.tmp 0)) 13 false,
  o2 15 (.call ⟨.builtin .len, #[.tmp 14], #[24]⟩) 13 false,
  o2 16 (.binOp .gtr 3 (.tmp 15) (.const (.int .i64 20)) 3) 13 false,
  o1 17 (.pick (.tmp 13) (.const (.bool true)) (.tmp 16))]) (.cond (.tmp 17) (.seq (.reg []
  [o1 18 (.call ⟨.value (.func 5), #[], #[]⟩),
  o1 4 (.assign (.tmp 18))]) (.ret)) (.skip))) (.seq (.reg []
  [o1 19 (.build 41 #[(0, .const (.string { data := #[32] })), (1, .const (.string { data := #[9] })), (2, .const (.string { data := #[10] })), (3, .const (.string { data := #[13, 32] }))]),
  o1 20 (.move (.tmp 1)),
  o1 21 (.binOp .rem 5 (.tmp 20) (.const (.int .u8 4)) 5),
  o1 22 (.index 41 (.tmp 19) (.tmp 21)),
  o1 5 (.assign (.tmp 22))]) (.seq (.reg []
  [o1 23 (.move (.tmp 5)),
  o1 24 (.binOp .add 9 (.const (.string { data := #[91] })) (.tmp 23) 9),
  o1 6 (.assign (.tmp 24))]) (.seq (.seq (.reg []
  [o1 25 (.move (.tmp 0)),
  o1 26 (.call ⟨.builtin .len, #[.tmp 25], #[24]⟩),
  o1 27 (.move (.const (.int .i64 0)))]) (.block 0 (.loop (.seq (.reg []
  [o1 28 (.binOp .lss 3 (.tmp 27) (.tmp 26) 3)]) (.seq (.cond (.tmp 28) (.skip) (.exit 0)) (.seq (.block 1 (.seq (.reg []
  [o1 29 (.move (.tmp 27)),
  o1 30 (.indexAddr 24 (.tmp 25) (.tmp 27)),
  o1 31 (.load 26 (.tmp 30)),
  o1 8 (.alloc 26),
  o1 7 (.assign (.tmp 29)),
  o3 (.store 26 (.tmp 8) (.tmp 31))]) (.seq (.seq (.reg []
  [o1 32 (.load 26 (.tmp 8)),
  o1 33 (.call ⟨.value (.func 6), #[.tmp 32, .const (.int .i64 12)], #[26, 3]⟩),
  o1 34 (.unOp .not 4 (.tmp 33)),
  o1 35 (.move (.tmp 34)),
  o2 36 (.load 26 (.tmp 8)) 35 false,
  o2 37 (.call ⟨.value (.func 8), #[.tmp 36], #[26]⟩) 35 false,
  o2 38 (.call ⟨.value (.func 7), #[.tmp 37, .const (.int .i64 2)], #[32, 3]⟩) 35 false,
  o2 39 (.binOp .neq 3 (.tmp 38) (.const (.int .i64 0)) 3) 35 false,
  o1 40 (.pick (.tmp 35) (.const (.bool true)) (.tmp 39))]) (.cond (.tmp 40) (.seq (.reg []
  [o1 4 (.assign (.const (.bool true)))]) (.ret)) (.skip))) (.seq (.seq (.reg []
  [o1 41 (.move (.tmp 7)),
  o1 42 (.binOp .gtr 3 (.tmp 41) (.const (.int .i64 0)) 3)]) (.cond (.tmp 42) (.reg []
  [o1 43 (.move (.tmp 6)),
  o1 44 (.move (.tmp 5)),
  o1 45 (.binOp .add 9 (.const (.string { data := #[44] })) (.tmp 44) 9),
  o1 46 (.binOp .add 9 (.tmp 43) (.tmp 45) 9),
  o1 6 (.assign (.tmp 46))]) (.skip))) (.reg []
  [o1 47 (.move (.tmp 6)),
  o1 48 (.move (.tmp 5)),
  o1 49 (.load 26 (.tmp 8)),
  o1 50 (.call ⟨.value (.func 8), #[.tmp 49], #[26]⟩),
  o1 51 (.call ⟨.value (.func 11), #[.tmp 50], #[32]⟩),
  o1 52 (.binOp .add 9 (.tmp 48) (.tmp 51) 9),
  o1 53 (.move (.tmp 5)),
  o1 54 (.binOp .add 9 (.tmp 52) (.tmp 53) 9),
  o1 55 (.binOp .add 9 (.tmp 47) (.tmp 54) 9),
  o1 6 (.assign (.tmp 55))]))))) (.reg []
  [o1 56 (.binOp .add 3 (.tmp 27) (.const (.int .i64 1)) 3),
  o1 27 (.move (.tmp 56))]))))))) (.seq (.reg []
  [o1 58 (.move (.tmp 5)),
  o1 59 (.move (.tmp 6)),
  o1 60 (.binOp .add 9 (.tmp 58) (.tmp 59) 9),
  o1 61 (.binOp .add 9 (.tmp 60) (.const (.string { data := #[93] })) 9),
  o1 62 (.move (.tmp 5)),
  o1 63 (.binOp .add 9 (.tmp 61) (.tmp 62) 9),
  o1 64 (.call ⟨.value (.func 10), #[.tmp 63], #[9]⟩),
  o1 57 (.move (.tmp 64)),
  o1 65 (.extract (.tmp 57) 0),
  o1 66 (.extract (.tmp 57) 1),
  o1 9 (.alloc 26),
  o3 (.store 26 (.tmp 9) (.tmp 65)),
  o1 10 (.assign (.tmp 66))]) (.seq (.reg []
  [o1 67 (.move (.tmp 10)),
  o1 68 (.binOp .eql 34 (.tmp 67) (.const (.int .i64 0)) 34),
  o1 69 (.move (.tmp 68)),
  o2 70 (.load 26 (.tmp 9)) 69 true,
  o2 71 (.move (.tmp 0)) 69 true,
  o2 72 (.build 26 #[(0, .const (.int .i64 5)), (3, .tmp 71)]) 69 true,
  o2 73 (.call ⟨.value (.func 12), #[.tmp 70, .tmp 72], #[26, 26]⟩) 69 true,
  o1 74 (.pick (.tmp 69) (.tmp 73) (.const (.bool false))),
  o1 4 (.assign (.tmp 74))]) (.ret)))))))
def ms4_0 : List Nat := [1, 2, 3, 4, 6, 7, 8, 11, 12, 13, 14, 15, 16, 17, 18, 19, 20, 21, 22, 23, 24, 27, 28, 29, 30, 31, 32, 33, 34, 35, 36, 37, 38, 39, 40, 41, 42, 43, 44, 45, 46, 47, 48, 49, 50, 51, 52, 53, 54, 55, 56]
end Go.Abs.S
namespace Go.Abs.S
attribute [local go_sem] lguard aopO aop aenv toAV tput aLoad aStore vcells aBin aNilI aUn aAlloc aBox aBuild aBSlice afill aConv isIntT aappZ aCap aArr aMM aMake aSlice bnd3 bnd aFldAddr aFld aIdxAddr aIdx aExt aLen aCopy aEq0 bAV aUb aapp aappQ agh acont List.getD_cons_zero List.getD_cons_succ List.set_cons_zero List.set_cons_succ List.getElem?_cons_zero List.getElem?_cons_succ List.length_cons List.length_nil List.map_cons List.map_nil ints_length if_true if_false Bool.false_eq_true true_and and_true eq_self ne_eq not_false_eq_true not_true_eq_false beq_self_eq_true Nat.zero_add Nat.add_zero Nat.mul_one Nat.zero_mul Int.toNat_natCast List.toList_toArray List.all_cons List.all_nil AV.one Value.oneCell' Bool.and_true Bool.true_and forall_const true_implies false_implies implies_true Option.map_some Option.map_none Option.isSome_some Option.isSome_none imp_self rdP_flat rdP_row splice_one ints_set ints_get List.append_nil List.cons_append List.nil_append List.getElem?_toArray List.drop_zero ints_drop ints_take List.take_of_length_le splice_all ints_one Option.some.injEq Option.getD_some List.length_replicate zArr List.map_replicate rep_ints splice_intsR List.length_set List.length_append List.flatten_replicate_singleton rep_slice rep_string rep_bool rep_iface List.replicate_zero if_pos if_neg List.mapM_cons List.mapM_nil Option.pure_def Option.bind_eq_bind Option.bind_some Bool.true_eq_false Bool.not_false Bool.not_true get_concat set_concat
open Go.Proofs
open Classical
set_option linter.unusedVariables false
set_option linter.unusedSimpArgs false
set_option maxRecDepth 100000
set_option maxHeartbeats 8000000
theorem avle_vs {n : Nat} {xs ys : List AV} {c : Option Nat} (h : AvLs xs ys) : AvLe (.vsl n xs c) (.vsl n ys none) := fun σ w u hu => by
  have hl := h.length
  cases hu with
  | vsl B o cap f hr hm ha hn hc => exact .vsl B o cap f hr (fun j hj => hm j (by omega)) (fun j hj => h.get j (by omega) _ _ _ (ha j (by omega))) hn (fun c hc => by cases hc)
  | vsl0 =>
    cases ys with
    | nil => exact .vsl0 _ _ (fun c hc => by cases hc)
    | cons _ _ => cases hl
theorem small_wrap (b : Bool) (v : Val) (h : small v) : small (wrap b v) := by
  unfold wrap
  split
  · rw [small, smallL_iff]
    exact ⟨⟨by decide, by simp, fun s hs => by rw [List.mem_singleton.1 hs]; decide, by simp⟩, fun w hw => by rw [List.mem_singleton.1 hw]; exact h⟩
  · rw [small, smallL_iff]
    exact ⟨⟨by decide, by simp, fun s hs => absurd hs List.not_mem_nil, by simp⟩, fun w hw => by rw [List.mem_singleton.1 hw]; exact h⟩
theorem well_wrap (b : Bool) (v : Val) (h : well v) : well (wrap b v) := by
  unfold wrap
  split
  · rw [well, wellL_iff]
    exact ⟨⟨by decide, by decide, fun _ => rfl⟩, fun w hw => by rw [List.mem_singleton.1 hw]; exact h⟩
  · rw [well, wellL_iff]
    exact ⟨⟨by decide, by decide, fun h => absurd h (by decide)⟩, fun w hw => by rw [List.mem_singleton.1 hw]; exact h⟩
theorem nest_facts (b : Bool) (v : Val) (hs : small v) (hw : well v) : ∀ j, small (nest b j v) ∧ well (nest b j v) ∧ (prV (nest b j v)).length ≤ (prV v).length + 6 * j
  | 0 => ⟨hs, hw, Nat.le_refl _⟩
  | j + 1 => by
    obtain ⟨h1, h2, h3⟩ := nest_facts b v hs hw j
    rw [nest]
    refine ⟨small_wrap b _ h1, well_wrap b _ h2, ?_⟩
    rw [wrap_pr]
    split
    · rw [quo_a]
      simp only [List.length_append, List.length_cons, List.length_nil]
      omega
    · simp only [List.length_append, List.length_cons, List.length_nil]
      omega
theorem leaf_len (v : Val) (h : fewV v 12 = true) (hk : ∀ k t ns vs, v = .mk k t ns vs → k < 5) (h0 : well v) : (prV v).length ≤ 1000 := by
  obtain ⟨k, t, ns, vs⟩ := v
  have hk := hk k t ns vs rfl
  obtain ⟨a1, _⟩ := few_at h
  obtain ⟨⟨k0, _⟩, _⟩ := h0.at
  have hl : (bl t).length = t.size := Array.length_toList
  have hq := (quoB_len (bl t)).2
  rw [prV]
  by_cases c0 : k = 0
  · rw [if_pos c0]; decide
  by_cases c1 : k = 1
  · rw [if_neg c0, if_pos c1]; decide
  by_cases c2 : k = 2
  · rw [if_neg c0, if_neg c1, if_pos c2]; decide
  by_cases c3 : k = 3
  · rw [if_neg c0, if_neg c1, if_neg c2, if_pos c3]; omega
  · rw [if_neg c0, if_neg c1, if_neg c2, if_neg c3, if_pos (by omega)]
    unfold quoL
    simp only [List.length_append, List.length_cons, List.length_nil]
    omega
theorem deeps_law0 (rg : ∀ v : Val, tiny v → ∀ d : Int, 1 ≤ d → d ≤ 9 → PCall Tryz.prog glob 7 [vA v, ivC d] (ivC (goodV v d))) (n : Nat) (hn : n ≤ 255) (b : Bool) (v : Val) : PCall Tryz.prog glob 3 [.v (.int .u8 n), .v (.bool b), vA v] (.v (.bool true)) := by
  refine PCall.of ctx.nr (List.forall_mem_cons.2 ⟨NR.v _, List.forall_mem_cons.2 ⟨NR.v _, List.forall_mem_cons.2 ⟨NR.vA _, fun _ h => absurd h List.not_mem_nil⟩⟩⟩) (NR.v _) ?_
  refine lcall3 (by simp) 0 (Nat.le_refl _) ?_
  have aw := awake_p
  have fv := few_p v 12 (by decide) (by decide)
  have ht : fewV v 12 = true → tiny v := fun h => few_tiny v 12 h
  have hlen := leaf_len v
  obtain ⟨u, hu⟩ : ∃ w, fewV v 12 = w := ⟨_, rfl⟩
  rw [hu] at fv ht hlen
  cases u with
  | false =>
    obtain ⟨k, t, ns, vs⟩ := v
    unfold vA at fv ⊢
    rw [Val.cells] at fv ⊢
    unfold lc3
    refine I1 tt ⟨?_⟩
    refine G1 F4 tt (an aw.go (an fv.go tt)) tt tt ⟨?_⟩
    refine R1 tt ⟨?_⟩
    exact end0 (NR.v _) rfl
  | true =>
  have hty := ht rfl
  have hs := hty.small
  have rp := ref_p v hs
  have gp := rg v hty 1 (by decide) (by decide)
  obtain ⟨g, hg⟩ : ∃ g, goodV v 1 = g := ⟨_, rfl⟩
  rw [hg] at gp
  by_cases hg0 : g = 0
  case neg =>
    have qg : ((g : Int) != 0) = true := by rw [bne_iff_ne, ne_eq]; omega
    obtain ⟨k, t, ns, vs⟩ := v
    unfold vA at fv rp gp ⊢
    rw [Val.cells] at fv rp gp ⊢
    try rw [Val.cells] at rp
    unfold lc3
    refine I1 tt ⟨?_⟩
    refine G1 F4 (an qg tt) (an aw.go (an fv.go (an rp.go (an gp.go tt)))) tt tt ⟨?_⟩
    refine R1 tt ⟨?_⟩
    exact end0 (NR.v _) rfl
  subst hg0
  have hw := good_well v 1 hg
  have nf := nest_facts b v hs hw
  have ng := nest_good b v hg
  have np := nest_parse b v hg
  have rn := fun j => ref_p _ (nf j).1
  by_cases hk5 : ∃ k t ns vs, v = .mk k t ns vs ∧ 5 ≤ k
  · obtain ⟨k, t, ns, vs, rfl, hk⟩ := hk5
    have q5 : decide (k ≥ 5) = true := by rw [decide_eq_true_eq]; omega
    unfold vA at fv rp gp ⊢
    rw [Val.cells] at fv rp gp ⊢
    try rw [Val.cells] at rp
    unfold lc3
    refine I1 tt ⟨?_⟩
    refine G1 F4 (an q5 tt) (an aw.go (an fv.go (an rp.go (an gp.go tt)))) tt tt ⟨?_⟩
    refine R1 tt ⟨?_⟩
    exact end0 (NR.v _) rfl
  have hleaf : ∀ k t ns vs, v = .mk k t ns vs → k < 5 := fun k t ns vs h => by
    by_cases h5 : 5 ≤ k
    · exact absurd ⟨k, t, ns, vs, h, h5⟩ hk5
    · omega
  have hl := hlen rfl hleaf hw
  have ng := ng hleaf
  have np := np hleaf
  have vn := v.nr
  obtain ⟨kk, hkk⟩ : ∃ k, n % 12 = k := ⟨_, rfl⟩
  have hk12 : kk < 12 := by omega
  have t1 : ((n : Nat) : Int).tmod 12 = ((n % 12 : Nat) : Int) := rfl
  rw [hkk] at t1
  have w1 : IntKind.u8.wrap (kk : Int) = (kk : Int) := by rw [IntKind.wrap_u8]; omega
  have w2 := i64n (kk : Int) kk rfl (by omega)
  have init : AvLs v.cells (nest b 0 v).cells := by
    obtain ⟨k, t, ns, vs⟩ := v
    rw [nest, Val.cells]
    exact ⟨AvLe.refl _, AvLe.refl _, AvLe.refl _, AvLe.refl _, trivial⟩
  obtain ⟨k, t, ns, vs⟩ := v
  have hk5' := hleaf k t ns vs rfl
  have q5 : decide (k ≥ 5) = false := by rw [decide_eq_false_iff_not]; omega
  unfold vA at fv rp gp ⊢
  rw [Val.cells] at fv rp gp init vn ⊢
  try rw [Val.cells] at rp
  unfold lc3
  refine I1 tt ⟨?_⟩
  refine G1 F4 (an q5 (an t1 (an w1 (an w2 tt)))) (an aw.go (an fv.go (an rp.go (an gp.go tt)))) tt tt ⟨?_⟩
  refine lavc_loopM ms3_0 (fun m (x : Nat × AV × AV × AV × AV) => m + x.1 = kk ∧ AvLs [x.2.1, x.2.2.1, x.2.2.2.1, x.2.2.2.2] (nest b x.1 (.mk k t ns vs)).cells ∧ (∀ c ∈ [x.2.1, x.2.2.1, x.2.2.2.1, x.2.2.2.2], NR c)) (fun x => [(35, ivC x.1)])
    (fun x => [Blk.mk [x.2.1, x.2.2.1, x.2.2.2.1, x.2.2.2.2] 0 true 26]) kk (0, ivC k, stA t, .vsl ns.length (strs ns) none, .vsl vs.length (cellsL vs) none) ⟨by show kk + 0 = _; omega, init, vn⟩ ?_ rfl ?_
  · refine ALe.mk ?_
    simp only [ms3_0, putAll, blank, List.foldl_cons, List.foldl_nil, List.set_cons_succ, List.set_cons_zero, List.cons_append, List.nil_append, ALe0, true_or, or_true, and_true, true_and, eq_self, reduceCtorEq, false_or]
    try rfl
  rintro m ⟨j, c0, c1, c2, c3⟩ ⟨hk, hcs, hnr⟩
  simp only at hk hcs hnr ⊢
  try unfold ms3_0
  refine M1 tt ⟨?_⟩
  refine G1 F1 tt tt tt tt ⟨?_⟩
  refine cnd rfl (fun hc => ?_) (fun hc => ?_)
  · have e3 := i64n ((j : Int) + 1) (j + 1) (by omega) (by omega)
    have hsp : splice (List.replicate 1 [AV.v (.int .i64 0), stA ⟨#[]⟩, nlA, nlA]).flatten 0 [c0, c1, c2, c3] = [c0, c1, c2, c3] := rfl
    have hst : splice (List.replicate 1 [stA ⟨#[]⟩]).flatten 0 [stA ⟨#[97]⟩] = [stA ⟨#[97]⟩] := rfl
    have hone : ∀ c ∈ [c0, c1, c2, c3], NR c := hnr
    cases b with
    | true =>
      refine G1 F5 (an e3 (an hsp (an hst tt))) tt tt tt ⟨?_⟩
      refine ⟨m - 1, (j + 1, ivC 6, stA ⟨#[]⟩, .vsl 1 [stA ⟨#[97]⟩] (some 1), .vsl 1 [c0, c1, c2, c3] (some 1)), by omega, ⟨by show m - 1 + (j + 1) = kk; omega, ?_, ?_⟩, ?_, rfl⟩
      · show AvLs [ivC 6, stA ⟨#[]⟩, .vsl 1 [stA ⟨#[97]⟩] (some 1), .vsl 1 [c0, c1, c2, c3] (some 1)] (nest true (j + 1) (.mk k t ns vs)).cells
        rw [nest]
        unfold wrap
        rw [if_pos rfl, Val.cells, cellsL, cellsL, List.append_nil]
        exact ⟨AvLe.refl _, AvLe.refl _, avle_vs ⟨AvLe.refl _, trivial⟩, avle_vs hcs, trivial⟩
      · intro c hc'
        simp only [List.mem_cons, List.not_mem_nil, or_false] at hc'
        rcases hc' with rfl | rfl | rfl | rfl
        · exact NR.v _
        · exact NR.v _
        · exact NR.vsl (by intro c hc; rw [List.mem_singleton.1 hc]; exact NR.v _)
        · exact NR.vsl hnr
      · try unfold ms3_0
        exact A0 tt
    | false =>
      refine G1 F5 (an e3 (an hsp (an hst tt))) tt tt tt ⟨?_⟩
      refine ⟨m - 1, (j + 1, ivC 5, stA ⟨#[]⟩, nlA, .vsl 1 [c0, c1, c2, c3] (some 1)), by omega, ⟨by show m - 1 + (j + 1) = kk; omega, ?_, ?_⟩, ?_, rfl⟩
      · show AvLs [ivC 5, stA ⟨#[]⟩, nlA, .vsl 1 [c0, c1, c2, c3] (some 1)] (nest false (j + 1) (.mk k t ns vs)).cells
        rw [nest]
        unfold wrap
        rw [if_neg (by decide), Val.cells, cellsL, cellsL, List.append_nil]
        exact ⟨AvLe.refl _, AvLe.refl _, AvLe.nil, avle_vs hcs, trivial⟩
      · intro c hc'
        simp only [List.mem_cons, List.not_mem_nil, or_false] at hc'
        rcases hc' with rfl | rfl | rfl | rfl
        · exact NR.v _
        · exact NR.v _
        · exact NR.v _
        · exact NR.vsl hnr
      · try unfold ms3_0
        exact A0 tt
  have hjk : j = kk := by omega
  subst hjk
  obtain ⟨f1, f2, f3⟩ := nf j
  have hle : AvLe (.agg [c0, c1, c2, c3]) (vA (nest b j (.mk k t ns vs))) := avle_ag hcs
  have rj : PCall Tryz.prog glob 8 [.agg [c0, c1, c2, c3]] (vA (nest b j (.mk k t ns vs))) := (ref_p _ f1).les ⟨hle, trivial⟩
  have qj := rprint_v _ f2 f1 (by omega)
  have hgj := ng j 1 (by decide) (by decide)
  have hpj := np j
  have pj := Parse_p (prV (nest b j (.mk k t ns vs))) (by omega)
  obtain ⟨Y, hY⟩ : ∃ y, (parseP (prV (nest b j (.mk k t ns vs)))).1 = y := ⟨_, rfl⟩
  rw [hY] at pj
  obtain ⟨kp, tp, nsp, vsp⟩ := Y
  have hnp := NR.pe (.mk kp tp nsp vsp)
  by_cases h7 : j ≤ 7
  · have pe := hpj.1 h7
    rw [if_neg (by omega)] at hgj
    have pr : PCall Tryz.prog glob 9 [.agg [c0, c1, c2, c3]] (.tup [stA (bs (prV (nest b j (.mk k t ns vs)))), ivC 0]) := (Print_good _ f1 hgj (by omega)).les ⟨hle, trivial⟩
    rw [pe] at pj
    obtain ⟨w, hw'⟩ : ∃ w, nest b j (.mk k t ns vs) = w := ⟨_, rfl⟩
    rw [hw'] at rj qj pj pr
    have pj2 : PCall Tryz.prog glob 10 [.v (.string (bs (prV w)))] (.tup [.agg [ivC kp, stA tp, .vsl nsp.length (strs nsp) none, .vsl vsp.length (cellsL vsp) none], ivC 0]) := by
      unfold vA at pj
      rw [Val.cells] at pj
      exact pj
    have q7 : decide ((j : Int) > 7) = false := by rw [decide_eq_false_iff_not]; omega
    refine G1 F4 (an q7 tt) (an pr.go (an rj.go (an qj.go (an pj2.go tt)))) tt tt ⟨?_⟩
    refine R1 tt ⟨?_⟩
    exact end0 (NR.v _) (by simp)
  · have pe := hpj.2 (by omega)
    rw [if_pos (by omega)] at hgj
    have pr : PCall Tryz.prog glob 9 [.agg [c0, c1, c2, c3]] (.tup [stA ⟨#[]⟩, ivC 9]) := (Print_bad _ f1 9 hgj (by decide)).les ⟨hle, trivial⟩
    rw [pe] at pj
    obtain ⟨w, hw'⟩ : ∃ w, nest b j (.mk k t ns vs) = w := ⟨_, rfl⟩
    rw [hw'] at rj qj pj
    have pj2 : PCall Tryz.prog glob 10 [.v (.string (bs (prV w)))] (.tup [.agg [ivC kp, stA tp, .vsl nsp.length (strs nsp) none, .vsl vsp.length (cellsL vsp) none], ivC 9]) := by
      unfold vA at pj
      rw [Val.cells] at pj
      exact pj
    have q7 : decide ((j : Int) > 7) = true := by rw [decide_eq_true_eq]; omega
    refine G1 F4 (an q7 tt) (an pr.go (an rj.go (an qj.go (an pj2.go tt)))) tt tt ⟨?_⟩
    refine R1 tt ⟨?_⟩
    exact end0 (NR.v _) (by simp)
end Go.Abs.S
namespace Go.Abs.S
open Go.Proofs
theorem deeps_law (n : Nat) (hn : n ≤ 255) (b : Bool) (v : Val) : PCall Tryz.prog glob 3 [.v (.int .u8 n), .v (.bool b), vA v] (.v (.bool true)) := deeps_law0 rgood_v n hn b v
end Go.Abs.S
