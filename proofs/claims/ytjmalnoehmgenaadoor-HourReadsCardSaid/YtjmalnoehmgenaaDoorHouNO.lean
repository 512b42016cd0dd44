/- hour: the order of texts; texts read; plainly. hour: texts read, plainly; the fixed fact. -/
import Derived.Test.YtjmalnoehmgenaaDoorHouJL
import Derived.Test.YtjmalnoehmgenaaDoorHouMm
namespace Go.Abs.S
attribute [local go_sem] lguard aopO aop nxL aenv toAV tput aLoad aStore vcells aBin aNilI aUn aAlloc aBox aBuild aBSlice afill aConv isIntT aappZ aCap aArr aMM aMake aSlice bnd3 bnd aFldAddr aFld aIdxAddr aIdx aExt aLen aCopy aEq0 bAV aUb aapp aappQ agh acont List.getD_cons_zero List.getD_cons_succ List.set_cons_zero List.set_cons_succ List.getElem?_cons_zero List.getElem?_cons_succ List.length_cons List.length_nil List.map_cons List.map_nil ints_length if_true if_false Bool.false_eq_true true_and and_true eq_self ne_eq not_false_eq_true not_true_eq_false beq_self_eq_true Nat.zero_add Nat.add_zero Nat.mul_one Nat.zero_mul Int.toNat_natCast List.toList_toArray List.all_cons List.all_nil AV.one Value.oneCell' Bool.and_true Bool.true_and forall_const true_implies false_implies implies_true Option.map_some Option.map_none Option.isSome_some Option.isSome_none imp_self rdP_flat rdP_row splice_one ints_set ints_get List.append_nil List.cons_append List.nil_append List.getElem?_toArray List.drop_zero ints_drop ints_take List.take_of_length_le splice_all ints_one Option.some.injEq Option.getD_some List.length_replicate zArr List.map_replicate rep_ints splice_intsR List.length_set List.length_append List.flatten_replicate_singleton rep_slice rep_string rep_bool rep_iface List.replicate_zero if_pos if_neg List.mapM_cons List.mapM_nil Option.pure_def Option.bind_eq_bind Option.bind_some Bool.true_eq_false Bool.not_false Bool.not_true get_concat set_concat
open Go.Proofs
open Go.Abs.H
set_option linter.unusedVariables false
set_option linter.unusedSimpArgs false
set_option maxRecDepth 100000
set_option maxHeartbeats 4000000
def ltI : List Int → List Int → Prop
  | _, [] => False
  | [], _ :: _ => True
  | a :: x, b :: y => a < b ∨ (a = b ∧ ltI x y)
theorem ltI_irr : ∀ x, ¬ ltI x x
  | [], h => h
  | a :: x, h => by
    rcases h with h | ⟨_, h⟩
    · omega
    · exact ltI_irr x h
theorem ltI_asym : ∀ {x y}, ltI x y → ¬ ltI y x
  | x, [], h, _ => by cases x <;> exact h.elim
  | [], _ :: _, _, h => h.elim
  | a :: x, b :: y, h, g => by
    rcases h with h | ⟨h1, h2⟩ <;> rcases g with g | ⟨g1, g2⟩
    · omega
    · omega
    · omega
    · exact ltI_asym h2 g2
theorem ltI_app (p x y : List Int) : ltI (p ++ x) (p ++ y) ↔ ltI x y := by
  induction p with
  | nil => exact Iff.rfl
  | cons a p ih =>
    show (a < a ∨ (a = a ∧ ltI (p ++ x) (p ++ y))) ↔ _
    rw [ih]
    constructor
    · rintro (h | ⟨_, h⟩)
      · omega
      · exact h
    · exact fun h => .inr ⟨rfl, h⟩
abbrev By0 (l : List Int) : Prop := ∀ x ∈ l, 0 ≤ x ∧ x ≤ 255
theorem less_iff : ∀ {l m : List Int}, By0 l → By0 m → (Op.bytesLess (l.map fun n => UInt8.ofNat n.toNat) (m.map fun n => UInt8.ofNat n.toNat) = true ↔ ltI l m)
  | [], [], _, _ => by simp [Op.bytesLess, ltI]
  | _ :: _, [], _, _ => by simp [Op.bytesLess, ltI]
  | [], _ :: _, _, _ => by simp [Op.bytesLess, ltI]
  | a :: x, b :: y, hl, hm => by
    have ih := less_iff (l := x) (m := y) (fun z hz => hl z (List.mem_cons_of_mem _ hz)) (fun z hz => hm z (List.mem_cons_of_mem _ hz))
    have ha := hl a List.mem_cons_self
    have hb := hm b List.mem_cons_self
    have e1 : (UInt8.ofNat a.toNat < UInt8.ofNat b.toNat) ↔ a < b := by
      rw [UInt8.lt_iff_toNat_lt]
      simp only [UInt8.toNat_ofNat']
      omega
    have e2 : (UInt8.ofNat a.toNat = UInt8.ofNat b.toNat) ↔ a = b := by
      rw [← UInt8.toNat_inj]
      simp only [UInt8.toNat_ofNat']
      omega
    simp only [List.map_cons, Op.bytesLess, ltI, Bool.or_eq_true, Bool.and_eq_true, decide_eq_true_eq, beq_iff_eq, e1, e2, ih]
theorem str_less {l m : List Int} (hl : By0 l) (hm : By0 m) : Op.bytesLess (strOf l).toList (strOf m).toList = true ↔ ltI l m := by
  rw [str_list, str_list]
  exact less_iff hl hm
theorem ext_strOf (l : List Int) (a b : Nat) : (strOf l).extract a b = strOf ((l.take b).drop a) := by
  apply WideShapes.bytes_inj
  rw [Go.Abs.C.ext_list]
  simp [strOf, List.map_take, List.map_drop]
theorem bt_str {l : List Int} (hl : By0 l) (i : Nat) (h : i < l.length) : bt (strOf l) i = l.getD i 0 := by
  unfold bt strOf
  have hx := hl _ (List.getElem_mem h)
  simp only [List.getD_eq_getElem?_getD, List.getElem?_map, List.getElem?_eq_getElem h, Option.map_some, Option.getD_some]
  simp only [UInt8.toNat_ofNat']
  omega
abbrev c48 (n : Nat) : Int := ((48 + n % 10 : Nat) : Int)
/-- A moment's text, byte by byte. -/
theorem txt_list (t : Mom) : txt t = [c48 (t.x.y.toNat / 1000), c48 (t.x.y.toNat / 100), c48 (t.x.y.toNat / 10), c48 t.x.y.toNat, 45, c48 (t.x.m.toNat / 10), c48 t.x.m.toNat, 45, c48 (t.x.d.toNat / 10), c48 t.x.d.toNat, 84, c48 (t.h.toNat / 10), c48 t.h.toNat, 58, c48 (t.i.toNat / 10), c48 t.i.toNat, 58, c48 (t.s.toNat / 10), c48 t.s.toNat, 90] := by
  unfold txt
  simp only [digs2, digs4]
  rfl
theorem c48_in (n : Nat) : 0 ≤ c48 n ∧ c48 n ≤ 255 := by
  unfold c48
  omega
theorem txt_by (t : Mom) : By0 (txt t) := by
  rw [txt_list]
  intro x hx
  simp only [List.mem_cons, List.not_mem_nil, or_false] at hx
  rcases hx with rfl | rfl | rfl | rfl | rfl | rfl | rfl | rfl | rfl | rfl | rfl | rfl | rfl | rfl | rfl | rfl | rfl | rfl | rfl | rfl <;> first | exact c48_in _ | decide
theorem txt_length (t : Mom) : (txt t).length = 20 := by rw [txt_list]; rfl
/-- One moment ahead of another. -/
def lexLt (a b : Mom) : Prop := a.x.y < b.x.y ∨ (a.x.y = b.x.y ∧ (a.x.m < b.x.m ∨ (a.x.m = b.x.m ∧ (a.x.d < b.x.d ∨ (a.x.d = b.x.d ∧ (a.h < b.h ∨ (a.h = b.h ∧ (a.i < b.i ∨ (a.i = b.i ∧ a.s < b.s)))))))))
theorem lex_secs {a b : Mom} (ha : a.ok) (hb : b.ok) (h : lexLt a b) : secs a < secs b := by
  rcases h with h | ⟨h1, h | ⟨h2, h | ⟨h3, h⟩⟩⟩
  · exact secs_lt ha hb (.inl (day_lt ha.1 hb.1 (.inl h)))
  · exact secs_lt ha hb (.inl (day_lt ha.1 hb.1 (.inr ⟨h1, .inl h⟩)))
  · exact secs_lt ha hb (.inl (day_lt ha.1 hb.1 (.inr ⟨h1, .inr ⟨h2, h⟩⟩)))
  · refine secs_lt ha hb (.inr ⟨?_, h⟩)
    unfold dayN
    rw [h1, h2, h3]
theorem lex_tri (a b : Mom) : lexLt a b ∨ a = b ∨ lexLt b a := by
  obtain ⟨⟨y, m, d⟩, h, i, s⟩ := a
  obtain ⟨⟨y', m', d'⟩, h', i', s'⟩ := b
  unfold lexLt
  simp only [Mom.mk.injEq, Date.mk.injEq]
  omega
theorem dig_lt {a b : Int} (x y : List Int) (ha : 0 ≤ a) (h : a < b) (hb : b < 100) : ltI (digs a.toNat 2 ++ x) (digs b.toNat 2 ++ y) := by
  simp only [digs2, List.cons_append, List.nil_append, ltI]
  omega
theorem dig_lt4 {a b : Int} (x y : List Int) (ha : 0 ≤ a) (h : a < b) (hb : b < 10000) : ltI (digs a.toNat 4 ++ x) (digs b.toNat 4 ++ y) := by
  simp only [digs4, List.cons_append, List.nil_append, ltI]
  obtain ⟨n, rfl⟩ := Int.eq_ofNat_of_zero_le ha
  obtain ⟨m, rfl⟩ := Int.eq_ofNat_of_zero_le (show 0 ≤ b by omega)
  simp only [Int.toNat_natCast]
  have g0 : n / 1000 % 10 = n / 1000 := by omega
  have g1 : m / 1000 % 10 = m / 1000 := by omega
  rw [g0, g1]
  by_cases h1 : n / 1000 < m / 1000
  · exact .inl (by omega)
  have h1' : n / 1000 = m / 1000 := by omega
  refine .inr ⟨by rw [h1'], ?_⟩
  by_cases h2 : n / 100 < m / 100
  · exact .inl (by omega)
  have h2' : n / 100 = m / 100 := by omega
  refine .inr ⟨by rw [h2'], ?_⟩
  by_cases h3 : n / 10 < m / 10
  · exact .inl (by omega)
  have h3' : n / 10 = m / 10 := by omega
  refine .inr ⟨by rw [h3'], .inl (by omega)⟩
theorem ltI_cons (c : Int) (x y : List Int) : ltI (c :: x) (c :: y) ↔ ltI x y := ltI_app [c] x y
theorem lex_txt {a b : Mom} (ha : a.ok) (hb : b.ok) (h : lexLt a b) : ltI (txt a) (txt b) := by
  have aa := ha.1.all
  have ab := hb.1.all
  have a2 := ha.2
  have b2 := hb.2
  unfold txt
  simp only [List.append_assoc, List.cons_append]
  rcases h with h | ⟨h1, h | ⟨h2, h | ⟨h3, h | ⟨h4, h | ⟨h5, h⟩⟩⟩⟩⟩
  · exact dig_lt4 _ _ (by omega) h (by omega)
  · rw [h1, ltI_app, ltI_cons]
    exact dig_lt _ _ (by omega) h (by omega)
  · rw [h1, h2, ltI_app, ltI_cons, ltI_app, ltI_cons]
    exact dig_lt _ _ (by omega) h (by omega)
  · rw [h1, h2, h3, ltI_app, ltI_cons, ltI_app, ltI_cons, ltI_app, ltI_cons]
    exact dig_lt _ _ (by omega) h (by omega)
  · rw [h1, h2, h3, h4, ltI_app, ltI_cons, ltI_app, ltI_cons, ltI_app, ltI_cons, ltI_app, ltI_cons]
    exact dig_lt _ _ (by omega) h (by omega)
  · rw [h1, h2, h3, h4, h5, ltI_app, ltI_cons, ltI_app, ltI_cons, ltI_app, ltI_cons, ltI_app, ltI_cons, ltI_app, ltI_cons]
    exact dig_lt _ _ (by omega) h (by omega)
theorem secs_txt {a b : Mom} (ha : a.ok) (hb : b.ok) : secs a < secs b ↔ ltI (txt a) (txt b) := by
  constructor
  · intro h
    rcases lex_tri a b with g | rfl | g
    · exact lex_txt ha hb g
    · omega
    · have := lex_secs hb ha g
      omega
  · intro h
    rcases lex_tri a b with g | rfl | g
    · exact lex_secs ha hb g
    · exact absurd h (ltI_irr _)
    · exact absurd h (ltI_asym (lex_txt hb ha g))
theorem txt_less {a b : Mom} (ha : a.ok) (hb : b.ok) : Op.bytesLess (strOf (txt a)).toList (strOf (txt b)).toList = decide (secs a < secs b) := by
  rw [Bool.eq_iff_iff, decide_eq_true_eq, str_less (txt_by a) (txt_by b), secs_txt ha hb]
theorem txt_inj {a b : Mom} (ha : a.ok) (hb : b.ok) : strOf (txt a) = strOf (txt b) ↔ secs a = secs b := by
  constructor
  · intro h
    have h := str_inj (txt_by a) (txt_by b) h
    rcases lex_tri a b with g | rfl | g
    · have := lex_txt ha hb g
      rw [h] at this
      exact absurd this (ltI_irr _)
    · rfl
    · have := lex_txt hb ha g
      rw [h] at this
      exact absurd this (ltI_irr _)
  · intro h
    rw [secs_inj ha hb h]
/-- A moment's text is read as it. -/
theorem bt_txt (t : Mom) (i : Nat) (h : i < 20) : bt (strOf (txt t)) i = (txt t).getD i 0 := bt_str (txt_by t) i (by rw [txt_length]; exact h)
open Go.Proofs
open Go.Abs.H
set_option linter.unusedVariables false
set_option linter.unusedSimpArgs false
set_option maxRecDepth 100000
set_option maxHeartbeats 4000000
theorem c48_d (n : Nat) : 48 ≤ c48 n ∧ c48 n ≤ 57 := by
  unfold c48
  omega
theorem two_c48 {x : Int} (h0 : 0 ≤ x) (h1 : x < 100) : (c48 (x.toNat / 10) - 48) * 10 + (c48 x.toNat - 48) = x := by
  unfold c48
  omega
theorem four_c48 {x : Int} (h0 : 0 ≤ x) (h1 : x < 10000) : (((c48 (x.toNat / 1000) - 48) * 10 + (c48 (x.toNat / 100) - 48)) * 10 + (c48 (x.toNat / 10) - 48)) * 10 + (c48 x.toNat - 48) = x := by
  unfold c48
  omega
/-- Bytes that begin as a moment's text does. -/
structure Begins (s : ByteArray) (t : Mom) : Prop where
  b0 : bt s 0 = c48 (t.x.y.toNat / 1000)
  b1 : bt s 1 = c48 (t.x.y.toNat / 100)
  b2 : bt s 2 = c48 (t.x.y.toNat / 10)
  b3 : bt s 3 = c48 t.x.y.toNat
  b4 : bt s 4 = 45
  b5 : bt s 5 = c48 (t.x.m.toNat / 10)
  b6 : bt s 6 = c48 t.x.m.toNat
  b7 : bt s 7 = 45
  b8 : bt s 8 = c48 (t.x.d.toNat / 10)
  b9 : bt s 9 = c48 t.x.d.toNat
  b10 : bt s 10 = 84
  b11 : bt s 11 = c48 (t.h.toNat / 10)
  b12 : bt s 12 = c48 t.h.toNat
  b13 : bt s 13 = 58
  b14 : bt s 14 = c48 (t.i.toNat / 10)
  b15 : bt s 15 = c48 t.i.toNat
  b16 : bt s 16 = 58
  b17 : bt s 17 = c48 (t.s.toNat / 10)
  b18 : bt s 18 = c48 t.s.toNat
theorem Begins.d19 {s : ByteArray} {t : Mom} (b : Begins s t) : D19 s := by
  unfold D19 dg
  rw [b.b0, b.b1, b.b2, b.b3, b.b4, b.b5, b.b6, b.b7, b.b8, b.b9, b.b10, b.b11, b.b12, b.b13, b.b14, b.b15, b.b16, b.b17, b.b18]
  exact ⟨⟨c48_d _, c48_d _, c48_d _, c48_d _⟩, rfl, ⟨c48_d _, c48_d _⟩, rfl, ⟨c48_d _, c48_d _⟩, rfl, ⟨c48_d _, c48_d _⟩, rfl, ⟨c48_d _, c48_d _⟩, rfl, ⟨c48_d _, c48_d _⟩⟩
theorem Begins.mom {s : ByteArray} {t : Mom} (b : Begins s t) (ht : t.ok) : momS s = t := by
  have ha := ht.1.all
  have hh := ht.2
  unfold momS n4 n2
  simp only [Nat.zero_add, Nat.reduceAdd]
  rw [b.b0, b.b1, b.b2, b.b3, b.b5, b.b6, b.b8, b.b9, b.b11, b.b12, b.b14, b.b15, b.b17, b.b18]
  rw [four_c48 (x := t.x.y) (by omega) (by omega), two_c48 (x := t.x.m) (by omega) (by omega), two_c48 (x := t.x.d) (by omega) (by omega), two_c48 (x := t.h) (by omega) (by omega), two_c48 (x := t.i) (by omega) (by omega), two_c48 (x := t.s) (by omega) (by omega)]
theorem begins_of {l : List Int} (hl : By0 l) (t : Mom) (r : List Int) (h : l = (txt t).take 19 ++ r) : Begins (strOf l) t := by
  have hlen : 19 ≤ l.length := by rw [h, List.length_append, List.length_take, txt_length]; omega
  have e : ∀ i, i < 19 → bt (strOf l) i = (txt t).getD i 0 := fun i hi => by
    rw [bt_str hl i (by omega), h]
    simp only [List.getD_eq_getElem?_getD]
    rw [List.getElem?_append_left (by rw [List.length_take, txt_length]; omega), List.getElem?_take, if_pos hi]
  have f : ∀ i v, i < 19 → (txt t).getD i 0 = v → bt (strOf l) i = v := fun i v hi hv => by rw [e i hi, hv]
  have g := txt_list t
  exact ⟨f 0 _ (by omega) (by rw [g]; rfl), f 1 _ (by omega) (by rw [g]; rfl), f 2 _ (by omega) (by rw [g]; rfl), f 3 _ (by omega) (by rw [g]; rfl), f 4 _ (by omega) (by rw [g]; rfl), f 5 _ (by omega) (by rw [g]; rfl), f 6 _ (by omega) (by rw [g]; rfl), f 7 _ (by omega) (by rw [g]; rfl), f 8 _ (by omega) (by rw [g]; rfl), f 9 _ (by omega) (by rw [g]; rfl), f 10 _ (by omega) (by rw [g]; rfl), f 11 _ (by omega) (by rw [g]; rfl), f 12 _ (by omega) (by rw [g]; rfl), f 13 _ (by omega) (by rw [g]; rfl), f 14 _ (by omega) (by rw [g]; rfl), f 15 _ (by omega) (by rw [g]; rfl), f 16 _ (by omega) (by rw [g]; rfl), f 17 _ (by omega) (by rw [g]; rfl), f 18 _ (by omega) (by rw [g]; rfl)⟩
theorem read_txt (t : Mom) (ht : t.ok) : readP (strOf (txt t)) = (secs t, 0) := by
  have hb : Begins (strOf (txt t)) t := begins_of (txt_by t) t [90] (by rw [txt_list]; rfl)
  have hs : (strOf (txt t)).size = 20 := by rw [str_size, txt_length]
  have h19 : bt (strOf (txt t)) 19 = 90 := by rw [bt_txt t 19 (by omega), txt_list]; rfl
  have hF : Formed (strOf (txt t)) := ⟨hb.d19, .inl ⟨hs, h19⟩⟩
  have hsh : shf (strOf (txt t)) = 0 := by unfold shf; rw [if_pos hs]
  have hi := secs_in ht
  unfold readP
  rw [if_neg (not_not_intro hF), if_neg (by omega), hb.mom ht, if_neg (not_not_intro ht), hsh, Int.add_zero, if_neg (by omega)]
/-- A text of twenty bytes that tells a time is that time's. -/
theorem txt_read (s : ByteArray) (hF : Formed s) (hs : s.size = 20) (hok : (momS s).ok) : strOf (txt (momS s)) = s := by
  obtain ⟨hd, hc⟩ := hF
  have h19 : bt s 19 = 90 := by rcases hc with h | h <;> omega
  obtain ⟨⟨h0, h1, h2, h3⟩, h4, ⟨h5, h6⟩, h7, ⟨h8, h9⟩, h10, ⟨h11, h12⟩, h13, ⟨h14, h15⟩, h16, ⟨h17, h18⟩⟩ := hd
  have hl : bytesOf s = [bt s 0, bt s 1, bt s 2, bt s 3, bt s 4, bt s 5, bt s 6, bt s 7, bt s 8, bt s 9, bt s 10, bt s 11, bt s 12, bt s 13, bt s 14, bt s 15, bt s 16, bt s 17, bt s 18, bt s 19] := by
    have h1 : bytesOf s = (List.range 20).map (bt s) := by
      apply List.ext_getElem
      · rw [bytesOf_length, hs]
        simp
      · intro i g1 g2
        have := bytesOf_at s i (by rw [bytesOf_length] at g1; exact g1)
        rw [List.getD_eq_getElem?_getD, List.getElem?_eq_getElem g1, Option.getD_some] at this
        rw [this]
        simp
    rw [h1]
    rfl
  have d2 : ∀ i, dg s i ∧ dg s (i + 1) → c48 ((n2 s i).toNat / 10) = bt s i ∧ c48 (n2 s i).toNat = bt s (i + 1) := fun i h => by
    unfold n2 c48
    unfold dg at h
    omega
  have d4 : c48 ((n4 s 0).toNat / 1000) = bt s 0 ∧ c48 ((n4 s 0).toNat / 100) = bt s 1 ∧ c48 ((n4 s 0).toNat / 10) = bt s 2 ∧ c48 (n4 s 0).toNat = bt s 3 := by
    unfold n4 c48
    simp only [Nat.zero_add]
    unfold dg at h0 h1 h2 h3
    generalize bt s 0 = a at *
    generalize bt s 1 = b at *
    generalize bt s 2 = c at *
    generalize bt s 3 = d at *
    obtain ⟨a, rfl⟩ : ∃ a' : Nat, a = ((48 + a' : Nat) : Int) := ⟨(a - 48).toNat, by omega⟩
    obtain ⟨b, rfl⟩ : ∃ b' : Nat, b = ((48 + b' : Nat) : Int) := ⟨(b - 48).toNat, by omega⟩
    obtain ⟨c, rfl⟩ : ∃ c' : Nat, c = ((48 + c' : Nat) : Int) := ⟨(c - 48).toNat, by omega⟩
    obtain ⟨d, rfl⟩ : ∃ d' : Nat, d = ((48 + d' : Nat) : Int) := ⟨(d - 48).toNat, by omega⟩
    obtain ⟨N, hN⟩ : ∃ N : Nat, ((((((48 + a : Nat) : Int) - 48) * 10 + (((48 + b : Nat) : Int) - 48)) * 10 + (((48 + c : Nat) : Int) - 48)) * 10 + (((48 + d : Nat) : Int) - 48)).toNat = N := ⟨_, rfl⟩
    rw [hN]
    have hN' : N = ((a * 10 + b) * 10 + c) * 10 + d := by omega
    refine ⟨by omega, by omega, by omega, by omega⟩
  have e5 := d2 5 ⟨h5, h6⟩
  have e8 := d2 8 ⟨h8, h9⟩
  have e11 := d2 11 ⟨h11, h12⟩
  have e14 := d2 14 ⟨h14, h15⟩
  have e17 := d2 17 ⟨h17, h18⟩
  have ht : txt (momS s) = bytesOf s := by
    rw [hl, txt_list]
    show [c48 ((n4 s 0).toNat / 1000), c48 ((n4 s 0).toNat / 100), c48 ((n4 s 0).toNat / 10), c48 (n4 s 0).toNat, 45, c48 ((n2 s 5).toNat / 10), c48 (n2 s 5).toNat, 45, c48 ((n2 s 8).toNat / 10), c48 (n2 s 8).toNat, 84, c48 ((n2 s 11).toNat / 10), c48 (n2 s 11).toNat, 58, c48 ((n2 s 14).toNat / 10), c48 (n2 s 14).toNat, 58, c48 ((n2 s 17).toNat / 10), c48 (n2 s 17).toNat, 90] = _
    rw [d4.1, d4.2.1, d4.2.2.1, d4.2.2.2, e5.1, e5.2, e8.1, e8.2, e11.1, e11.2, e14.1, e14.2, e17.1, e17.2, h4, h7, h10, h13, h16, h19]
  rw [ht]
  exact str_bytes s
theorem awake_p : PCall Tryd.prog glob 10 [] (.v (.bool true)) := by
  refine PCall.of ctx.nr (by (repeat (refine List.forall_mem_cons.2 (And.intro (by first | exact NR.v _ | exact NR.agg (NR.ints _ _) | exact NR.vsl (NR.ints _ _) | exact NR.vptr (NR.ints _ _) | assumption) ?_))); exact fun _ h => absurd h List.not_mem_nil) (NR.v _) ?_
  refine lcall10 (by simp) 0 (Nat.le_refl _) ?_
  unfold lc10
  simp only [List.length_cons, List.length_nil, Nat.reduceAdd, Nat.reduceSub, List.replicate_succ, List.replicate_zero, List.cons_append, List.nil_append]
  have r := Read_p ⟨#[49, 57, 55, 48, 45, 48, 49, 45, 48, 49, 84, 48, 49, 58, 48, 48, 58, 48, 48, 43, 48, 49, 58, 48, 48]⟩ (by decide)
  have er : readP ⟨#[49, 57, 55, 48, 45, 48, 49, 45, 48, 49, 84, 48, 49, 58, 48, 48, 58, 48, 48, 43, 48, 49, 58, 48, 48]⟩ = (0, 0) := by decide +kernel
  rw [er] at r
  have t := Text_p ⟨⟨1970, 1, 1⟩, 0, 0, 0⟩ (by decide +kernel)
  have e0 : secs ⟨⟨1970, 1, 1⟩, 0, 0, 0⟩ = 0 := by decide
  rw [e0] at t
  have et : ((strOf (txt ⟨⟨1970, 1, 1⟩, 0, 0, 0⟩)).toList == (⟨#[49, 57, 55, 48, 45, 48, 49, 45, 48, 49, 84, 48, 48, 58, 48, 48, 58, 48, 48, 90]⟩ : ByteArray).toList) = true := by
    rw [ByteArray.toList_eq, ByteArray.toList_eq]
    decide +kernel
  have z0 : ((0 : Int) == 0) = true := rfl
  repeat (first
    | (with_reducible refine lops_step fun K hK => ?_; simp (disch := first | omega | (simp only [go_sem, isRow, isFlat, Option.isSome_some]; done) | assumption | (simp only [ints_length, List.length_replicate, List.length_set, List.length_append, List.length_take, List.length_drop, List.length_cons, List.length_nil] <;> omega) | fail) only [go_sem, Nat.reduceAdd, Nat.reduceSub, reduceIte, Nat.reduceEqDiff, Int.reduceToNat, Int.reduceBEq, Int.reduceBNe, et, z0]; (try (first | (refine And.intro (fun _ => ?_) (fun h => absurd h (by decide))) | (refine And.intro (fun h => absurd h (by decide)) (fun _ => ?_)))); (repeat (with_reducible refine And.intro (by first | omega | rfl | assumption | decide) ?_)); (first | (refine hK _ _ ?_) | (refine ⟨_, rfl, hK _ _ ?_⟩) | (refine Or.inl (hK _ _ ?_)) | (refine ⟨_, _, Or.inl (r.go _), (by first | exact ⟨[], (List.append_nil _).symm⟩ | exact ⟨_, rfl⟩), hK _ _ ?_⟩) | (refine ⟨_, _, Or.inl (r.go _), hK _ _ ?_⟩) | (refine ⟨_, _, Or.inl (r.go _).weakQ, hK _ _ ?_⟩) | (refine ⟨_, _, Or.inl (t.go _), (by first | exact ⟨[], (List.append_nil _).symm⟩ | exact ⟨_, rfl⟩), hK _ _ ?_⟩) | (refine ⟨_, _, Or.inl (t.go _), hK _ _ ?_⟩) | (refine ⟨_, _, Or.inl (t.go _).weakQ, hK _ _ ?_⟩)); clear hK K)
    | (with_reducible refine lops_nil ?_)
    | (with_reducible refine lavc_reg ?_)
    | (with_reducible refine lavc_seq ?_)
    | (with_reducible refine lavc_block ?_)
    | (with_reducible refine lavc_skip ?_)
    | (with_reducible refine lavc_exit ?_)
    | (with_reducible refine lavc_ret ?_)
    | (with_reducible refine lavcR_round ?_)
    | (refine lavc_cond rfl (fun _ => ?_) (fun hc => absurd hc (by decide)))
    | (refine lavc_cond rfl (fun hc => absurd hc (by decide)) (fun _ => ?_))
    | (simp only [↓reduceIte, Nat.reduceEqDiff, reduceCtorEq]))
  refine And.intro (by simp) ?_
  simp (disch := first | omega | (simp only [go_sem, isRow, isFlat, Option.isSome_some]; done) | assumption | (simp only [ints_length, List.length_replicate, List.length_set, List.length_append, List.length_take, List.length_drop, List.length_cons, List.length_nil] <;> omega) | fail) only [go_sem, Nat.reduceAdd, Nat.reduceSub, reduceIte, Nat.reduceEqDiff, Int.reduceToNat, Int.reduceBEq, Int.reduceBNe, aret, aretL, aret1, aenv]
  (repeat (with_reducible refine And.intro (by first | omega | rfl | assumption | decide) ?_))
  exact end0 (NR.v _) rfl
theorem txt_10 (t : Mom) : (strOf (txt t)).extract 10 20 = strOf [84, c48 (t.h.toNat / 10), c48 t.h.toNat, 58, c48 (t.i.toNat / 10), c48 t.i.toNat, 58, c48 (t.s.toNat / 10), c48 t.s.toNat, 90] := by rw [ext_strOf, txt_list]; rfl
theorem txt_14 (t : Mom) : (strOf (txt t)).extract 14 20 = strOf [c48 (t.i.toNat / 10), c48 t.i.toNat, 58, c48 (t.s.toNat / 10), c48 t.s.toNat, 90] := by rw [ext_strOf, txt_list]; rfl
theorem txt_17 (t : Mom) : (strOf (txt t)).extract 17 20 = strOf [c48 (t.s.toNat / 10), c48 t.s.toNat, 90] := by rw [ext_strOf, txt_list]; rfl
theorem txt_z (t : Mom) : (strOf (txt t)).size = 20 := by rw [str_size, txt_length]
theorem txt_4 (t : Mom) : (strOf (txt t)).extract 4 20 = strOf [45, c48 (t.x.m.toNat / 10), c48 t.x.m.toNat, 45, c48 (t.x.d.toNat / 10), c48 t.x.d.toNat, 84, c48 (t.h.toNat / 10), c48 t.h.toNat, 58, c48 (t.i.toNat / 10), c48 t.i.toNat, 58, c48 (t.s.toNat / 10), c48 t.s.toNat, 90] := by rw [ext_strOf, txt_list]; rfl
theorem mom_z (x : Date) (h : x.ok) : (Mom.mk x 0 0 0).ok := ⟨h, show (0 : Int) ≤ 0 ∧ (0 : Int) ≤ 23 ∧ (0 : Int) ≤ 0 ∧ (0 : Int) ≤ 59 ∧ (0 : Int) ≤ 0 ∧ (0 : Int) ≤ 59 by decide⟩
theorem mom_e (x : Date) (h : x.ok) : (Mom.mk x 23 59 59).ok := ⟨h, show (0 : Int) ≤ 23 ∧ (23 : Int) ≤ 23 ∧ (0 : Int) ≤ 59 ∧ (59 : Int) ≤ 59 ∧ (0 : Int) ≤ 59 ∧ (59 : Int) ≤ 59 by decide⟩
end Go.Abs.S
