/- hour: the order of texts; texts read; plainly. -/
import Derived.Test.YtjmalnoehmgenaaDoorHouL
namespace Go.Abs.S
open Go.Proofs
open Go.Abs.H
set_option linter.unusedVariables false
set_option linter.unusedSimpArgs false
set_option maxRecDepth 100000
set_option maxHeartbeats 4000000
def ltI : List Int → List Int → Prop
  | _, [] => False
  | [], _ :: _ => True
  | a :: x, b :: y => a < b ∨ (a = b ∧ ltI x y)
theorem ltI_irr : ∀ x, ¬ ltI x x
  | [], h => h
  | a :: x, h => by
    rcases h with h | ⟨_, h⟩
    · omega
    · exact ltI_irr x h
theorem ltI_asym : ∀ {x y}, ltI x y → ¬ ltI y x
  | x, [], h, _ => by cases x <;> exact h.elim
  | [], _ :: _, _, h => h.elim
  | a :: x, b :: y, h, g => by
    rcases h with h | ⟨h1, h2⟩ <;> rcases g with g | ⟨g1, g2⟩
    · omega
    · omega
    · omega
    · exact ltI_asym h2 g2
theorem ltI_app (p x y : List Int) : ltI (p ++ x) (p ++ y) ↔ ltI x y := by
  induction p with
  | nil => exact Iff.rfl
  | cons a p ih =>
    show (a < a ∨ (a = a ∧ ltI (p ++ x) (p ++ y))) ↔ _
    rw [ih]
    constructor
    · rintro (h | ⟨_, h⟩)
      · omega
      · exact h
    · exact fun h => .inr ⟨rfl, h⟩
abbrev By0 (l : List Int) : Prop := ∀ x ∈ l, 0 ≤ x ∧ x ≤ 255
theorem less_iff : ∀ {l m : List Int}, By0 l → By0 m → (Op.bytesLess (l.map fun n => UInt8.ofNat n.toNat) (m.map fun n => UInt8.ofNat n.toNat) = true ↔ ltI l m)
  | [], [], _, _ => by simp [Op.bytesLess, ltI]
  | _ :: _, [], _, _ => by simp [Op.bytesLess, ltI]
  | [], _ :: _, _, _ => by simp [Op.bytesLess, ltI]
  | a :: x, b :: y, hl, hm => by
    have ih := less_iff (l := x) (m := y) (fun z hz => hl z (List.mem_cons_of_mem _ hz)) (fun z hz => hm z (List.mem_cons_of_mem _ hz))
    have ha := hl a List.mem_cons_self
    have hb := hm b List.mem_cons_self
    have e1 : (UInt8.ofNat a.toNat < UInt8.ofNat b.toNat) ↔ a < b := by
      rw [UInt8.lt_iff_toNat_lt]
      simp only [UInt8.toNat_ofNat']
      omega
    have e2 : (UInt8.ofNat a.toNat = UInt8.ofNat b.toNat) ↔ a = b := by
      rw [← UInt8.toNat_inj]
      simp only [UInt8.toNat_ofNat']
      omega
    simp only [List.map_cons, Op.bytesLess, ltI, Bool.or_eq_true, Bool.and_eq_true, decide_eq_true_eq, beq_iff_eq, e1, e2, ih]
theorem str_less {l m : List Int} (hl : By0 l) (hm : By0 m) : Op.bytesLess (strOf l).toList (strOf m).toList = true ↔ ltI l m := by
  rw [str_list, str_list]
  exact less_iff hl hm
theorem ext_strOf (l : List Int) (a b : Nat) : (strOf l).extract a b = strOf ((l.take b).drop a) := by
  apply WideShapes.bytes_inj
  rw [Go.Abs.C.ext_list]
  simp [strOf, List.map_take, List.map_drop]
theorem bt_str {l : List Int} (hl : By0 l) (i : Nat) (h : i < l.length) : bt (strOf l) i = l.getD i 0 := by
  unfold bt strOf
  have hx := hl _ (List.getElem_mem h)
  simp only [List.getD_eq_getElem?_getD, List.getElem?_map, List.getElem?_eq_getElem h, Option.map_some, Option.getD_some]
  simp only [UInt8.toNat_ofNat']
  omega
abbrev c48 (n : Nat) : Int := ((48 + n % 10 : Nat) : Int)
/-- A moment's text, byte by byte. -/
theorem txt_list (t : Mom) : txt t = [c48 (t.x.y.toNat / 1000), c48 (t.x.y.toNat / 100), c48 (t.x.y.toNat / 10), c48 t.x.y.toNat, 45, c48 (t.x.m.toNat / 10), c48 t.x.m.toNat, 45, c48 (t.x.d.toNat / 10), c48 t.x.d.toNat, 84, c48 (t.h.toNat / 10), c48 t.h.toNat, 58, c48 (t.i.toNat / 10), c48 t.i.toNat, 58, c48 (t.s.toNat / 10), c48 t.s.toNat, 90] := by
  unfold txt
  simp only [digs2, digs4]
  rfl
theorem c48_in (n : Nat) : 0 ≤ c48 n ∧ c48 n ≤ 255 := by
  unfold c48
  omega
theorem txt_by (t : Mom) : By0 (txt t) := by
  rw [txt_list]
  intro x hx
  simp only [List.mem_cons, List.not_mem_nil, or_false] at hx
  rcases hx with rfl | rfl | rfl | rfl | rfl | rfl | rfl | rfl | rfl | rfl | rfl | rfl | rfl | rfl | rfl | rfl | rfl | rfl | rfl | rfl <;> first | exact c48_in _ | decide
theorem txt_length (t : Mom) : (txt t).length = 20 := by rw [txt_list]; rfl
/-- One moment ahead of another. -/
def lexLt (a b : Mom) : Prop := a.x.y < b.x.y ∨ (a.x.y = b.x.y ∧ (a.x.m < b.x.m ∨ (a.x.m = b.x.m ∧ (a.x.d < b.x.d ∨ (a.x.d = b.x.d ∧ (a.h < b.h ∨ (a.h = b.h ∧ (a.i < b.i ∨ (a.i = b.i ∧ a.s < b.s)))))))))
theorem lex_secs {a b : Mom} (ha : a.ok) (hb : b.ok) (h : lexLt a b) : secs a < secs b := by
  rcases h with h | ⟨h1, h | ⟨h2, h | ⟨h3, h⟩⟩⟩
  · exact secs_lt ha hb (.inl (day_lt ha.1 hb.1 (.inl h)))
  · exact secs_lt ha hb (.inl (day_lt ha.1 hb.1 (.inr ⟨h1, .inl h⟩)))
  · exact secs_lt ha hb (.inl (day_lt ha.1 hb.1 (.inr ⟨h1, .inr ⟨h2, h⟩⟩)))
  · refine secs_lt ha hb (.inr ⟨?_, h⟩)
    unfold dayN
    rw [h1, h2, h3]
theorem lex_tri (a b : Mom) : lexLt a b ∨ a = b ∨ lexLt b a := by
  obtain ⟨⟨y, m, d⟩, h, i, s⟩ := a
  obtain ⟨⟨y', m', d'⟩, h', i', s'⟩ := b
  unfold lexLt
  simp only [Mom.mk.injEq, Date.mk.injEq]
  omega
theorem dig_lt {a b : Int} (x y : List Int) (ha : 0 ≤ a) (h : a < b) (hb : b < 100) : ltI (digs a.toNat 2 ++ x) (digs b.toNat 2 ++ y) := by
  simp only [digs2, List.cons_append, List.nil_append, ltI]
  omega
theorem dig_lt4 {a b : Int} (x y : List Int) (ha : 0 ≤ a) (h : a < b) (hb : b < 10000) : ltI (digs a.toNat 4 ++ x) (digs b.toNat 4 ++ y) := by
  simp only [digs4, List.cons_append, List.nil_append, ltI]
  obtain ⟨n, rfl⟩ := Int.eq_ofNat_of_zero_le ha
  obtain ⟨m, rfl⟩ := Int.eq_ofNat_of_zero_le (show 0 ≤ b by omega)
  simp only [Int.toNat_natCast]
  have g0 : n / 1000 % 10 = n / 1000 := by omega
  have g1 : m / 1000 % 10 = m / 1000 := by omega
  rw [g0, g1]
  by_cases h1 : n / 1000 < m / 1000
  · exact .inl (by omega)
  have h1' : n / 1000 = m / 1000 := by omega
  refine .inr ⟨by rw [h1'], ?_⟩
  by_cases h2 : n / 100 < m / 100
  · exact .inl (by omega)
  have h2' : n / 100 = m / 100 := by omega
  refine .inr ⟨by rw [h2'], ?_⟩
  by_cases h3 : n / 10 < m / 10
  · exact .inl (by omega)
  have h3' : n / 10 = m / 10 := by omega
  refine .inr ⟨by rw [h3'], .inl (by omega)⟩
theorem ltI_cons (c : Int) (x y : List Int) : ltI (c :: x) (c :: y) ↔ ltI x y := ltI_app [c] x y
theorem lex_txt {a b : Mom} (ha : a.ok) (hb : b.ok) (h : lexLt a b) : ltI (txt a) (txt b) := by
  have aa := ha.1.all
  have ab := hb.1.all
  have a2 := ha.2
  have b2 := hb.2
  unfold txt
  simp only [List.append_assoc, List.cons_append]
  rcases h with h | ⟨h1, h | ⟨h2, h | ⟨h3, h | ⟨h4, h | ⟨h5, h⟩⟩⟩⟩⟩
  · exact dig_lt4 _ _ (by omega) h (by omega)
  · rw [h1, ltI_app, ltI_cons]
    exact dig_lt _ _ (by omega) h (by omega)
  · rw [h1, h2, ltI_app, ltI_cons, ltI_app, ltI_cons]
    exact dig_lt _ _ (by omega) h (by omega)
  · rw [h1, h2, h3, ltI_app, ltI_cons, ltI_app, ltI_cons, ltI_app, ltI_cons]
    exact dig_lt _ _ (by omega) h (by omega)
  · rw [h1, h2, h3, h4, ltI_app, ltI_cons, ltI_app, ltI_cons, ltI_app, ltI_cons, ltI_app, ltI_cons]
    exact dig_lt _ _ (by omega) h (by omega)
  · rw [h1, h2, h3, h4, h5, ltI_app, ltI_cons, ltI_app, ltI_cons, ltI_app, ltI_cons, ltI_app, ltI_cons, ltI_app, ltI_cons]
    exact dig_lt _ _ (by omega) h (by omega)
theorem secs_txt {a b : Mom} (ha : a.ok) (hb : b.ok) : secs a < secs b ↔ ltI (txt a) (txt b) := by
  constructor
  · intro h
    rcases lex_tri a b with g | rfl | g
    · exact lex_txt ha hb g
    · omega
    · have := lex_secs hb ha g
      omega
  · intro h
    rcases lex_tri a b with g | rfl | g
    · exact lex_secs ha hb g
    · exact absurd h (ltI_irr _)
    · exact absurd h (ltI_asym (lex_txt hb ha g))
theorem txt_less {a b : Mom} (ha : a.ok) (hb : b.ok) : Op.bytesLess (strOf (txt a)).toList (strOf (txt b)).toList = decide (secs a < secs b) := by
  rw [Bool.eq_iff_iff, decide_eq_true_eq, str_less (txt_by a) (txt_by b), secs_txt ha hb]
theorem txt_inj {a b : Mom} (ha : a.ok) (hb : b.ok) : strOf (txt a) = strOf (txt b) ↔ secs a = secs b := by
  constructor
  · intro h
    have h := str_inj (txt_by a) (txt_by b) h
    rcases lex_tri a b with g | rfl | g
    · have := lex_txt ha hb g
      rw [h] at this
      exact absurd this (ltI_irr _)
    · rfl
    · have := lex_txt hb ha g
      rw [h] at this
      exact absurd this (ltI_irr _)
  · intro h
    rw [secs_inj ha hb h]
/-- A moment's text is read as it. -/
theorem bt_txt (t : Mom) (i : Nat) (h : i < 20) : bt (strOf (txt t)) i = (txt t).getD i 0 := bt_str (txt_by t) i (by rw [txt_length]; exact h)
end Go.Abs.S
