/- Arguments whose type holds itself: values as trees. page: what reading comes to, plainly. UTF-8, plainly: what decoding tells of a sign that is right; where the first sign to look at stands. Texts as  -/
import Derived.Test.YtdbpaahdonplbaaGreatDoorJQ3
import Derived.Lib.TrimUEq
import Derived.Lib.Builder
import Derived.Test.YtdbpaahdonplbaaGreatDoorJQ2
namespace Go.Abs
open Go.Deep
set_option linter.unusedVariables false
set_option linter.unusedSimpArgs false
variable {P : Program} {H : Type} {enc : TypeId × Value → H} {w : World} {spare : Nat → Bool} {held : Bool}
/-- Data read at that fuel. -/
def Rd.At {α : Type} (r : Rd α) (f : Nat) (enc : TypeId × Value → H) (P : Program) (w : World) (spare : Nat → Bool) (held : Bool) (t : TypeId) : Prop :=
  ∀ cs x, DataW.trod enc P w 0 spare held f t cs = some x → ∃ y, r.wf y ∧ cs.length = r.sz ∧ ∀ j, j < r.sz → AR (lawSig w) w ((r.av y).getD j .any) (cs.getD j undef)
theorem Rd.Is.at {α : Type} {r : Rd α} {t : TypeId} (h : r.Is enc P w spare held t) (f : Nat) : r.At f enc P w spare held t := fun cs x hx => by
  obtain ⟨y, h1, h2, h3, _⟩ := h f cs x hx
  exact ⟨y, h1, h2, h3⟩
theorem Rd.slice_at {α : Type} [Inhabited α] {r : Rd α} {e t : TypeId} {f : Nat} (ht : P.underlying t = some (.slice e)) (hsz : P.cellsOf e = r.sz) (hpos : 0 < r.sz) (hel : ∀ n, f = n + 1 → r.At n enc P w spare held e) : r.slice.At f enc P w spare held t := by
  intro cs x h
  rcases DataW.trod_slice ht h with ⟨rfl, _⟩ | ⟨a, len, cap, elems, rest, n, hf, rfl, rfl, hb, hl, hm, hlen, hx, hsp, hns⟩
  · refine ⟨[], ⟨by simp, by simp⟩, rfl, fun j hj => ?_⟩
    obtain rfl : j = 0 := by have : j < 1 := hj; omega
    exact .vsl0 _ _ (fun c hc => by cases hc)
  · have hc : ∀ i, i < len → ∃ y, r.wf y ∧ ∀ j, j < r.sz → ∃ u, w.cell? (a.add (i * r.sz + j)) = some u ∧ AR (lawSig w) w ((r.av y).getD j .any) u := by
      intro i hi
      have h0 := hx i hi
      rw [List.getElem?_eq_getElem (by omega)] at h0
      obtain ⟨cs', h1, h2⟩ := Option.bind_eq_some_iff.1 h0
      obtain ⟨y, hw, hlen, har⟩ := hel n hf _ _ h2
      obtain ⟨_, _, hcell⟩ := World.cells?_some h1
      refine ⟨y, hw, fun j hj => ⟨cs'.getD j undef, ?_, har j hj⟩⟩
      have := hcell j (by omega)
      rw [hsz] at this
      have e : a.add (i * r.sz + j) = (a.add (i * r.sz)).add j := by
        unfold Addr.add
        by_cases h1 : i * r.sz = 0 <;> by_cases h2 : j = 0 <;> simp [h1, h2]
        omega
      rw [e, this, List.getD_eq_getElem?_getD, List.getElem?_eq_getElem (by omega)]
      rfl
    obtain ⟨V, hV⟩ := choose_lt (α := α) (p := fun i y => r.wf y ∧ ∀ j, j < r.sz → ∃ u, w.cell? (a.add (i * r.sz + j)) = some u ∧ AR (lawSig w) w ((r.av y).getD j .any) u) hc
    have hwf : ∀ y ∈ (List.range len).map V, r.wf y := fun y hy => by
      simp only [List.mem_map, List.mem_range] at hy
      obtain ⟨i, hi, rfl⟩ := hy
      exact (hV i hi).1
    refine ⟨(List.range len).map V, ⟨by simp; omega, hwf⟩, rfl, fun j hj => ?_⟩
    obtain rfl : j = 0 := by have : j < 1 := hj; omega
    show AR (lawSig w) w (.vsl ((List.range len).map V).length (((List.range len).map V).flatMap r.av) none) (.slice (some a) len cap)
    have hll : ((List.range len).map V).length = len := by simp
    have hfl : (((List.range len).map V).flatMap r.av).length = len * r.sz := by
      have := (r.arr len).len ((List.range len).map V) ⟨hll, hwf⟩
      exact this
    rw [hll]
    have key : ∀ j, j < len * r.sz → ∃ u, w.cell? (a.add j) = some u ∧ AR (lawSig w) w ((((List.range len).map V).flatMap r.av).getD j .any) u := by
      intro j hj
      obtain ⟨i, y, h1, h2, h3, h4, h5⟩ := flat_at r ((List.range len).map V) j hwf (by rw [hll]; exact hj)
      rw [hll] at h1
      obtain rfl : V i = y := by simpa [h1] using h2
      obtain ⟨u, g1, g2⟩ := (hV i h1).2 _ h4
      refine ⟨u, by rw [h3]; exact g1, ?_⟩
      rw [List.getD_eq_getElem?_getD, h5, ← List.getD_eq_getElem?_getD]
      exact g2
    by_cases h0 : len * r.sz = 0
    · have : len = 0 := (Nat.mul_eq_zero.1 h0).resolve_right (by omega)
      subst this
      exact .vsl0 _ _ (fun c hc => by cases hc)
    · obtain ⟨u0, c0, _⟩ := key 0 (by omega)
      obtain ⟨ab, ao, asp⟩ := a
      have hsp : asp = none := by
        cases asp with
        | none => rfl
        | some s => simp [World.cell?, Addr.add] at c0; split at c0 <;> simp at c0
      subst hsp
      have hlt : ab < w.heap.size := by
        rcases Nat.lt_or_ge ab w.heap.size with h | h
        · exact h
        · simp [World.cell?, Addr.add, Array.getElem?_eq_none h] at c0
      refine .vsl ab ao cap (fun j => (w.cell? ⟨ab, ao + j, none⟩).getD undef) hlt (fun j hj => ?_) (fun j hj => ?_) hl (fun c hc => by cases hc)
      · obtain ⟨u, g1, _⟩ := key j (by omega)
        rw [Addr.add_lit] at g1
        rw [g1]
        rfl
      · obtain ⟨u, g1, g2⟩ := key j (by omega)
        rw [Addr.add_lit] at g1
        rw [g1]
        exact g2
/-- Fields from a place on, at that fuel. -/
def Rd.FAt {α : Type} (r : Rd α) (n : Nat) (enc : TypeId × Value → H) (P : Program) (w : World) (spare : Nat → Bool) (held : Bool) (fs : List Field) (o : Nat) : Prop :=
  ∀ (cs : List Value) (xs : List (DataW H × List MemPlace)), xs.length = fs.length → (∀ (i : Nat) (f : Field), fs[i]? = some f → DataW.trod enc P w 0 spare held n f.type ((cs.drop f.offset).take (P.cellsOf f.type)) = xs[i]?) →
    ∃ y, r.wf y ∧ ∀ j, j < r.sz → AR (lawSig w) w ((r.av y).getD j .any) (cs.getD (o + j) undef)
theorem Rd.fat_nil (n o : Nat) : Rd.unit.FAt n enc P w spare held [] o := fun cs xs _ _ => ⟨(), trivial, fun j hj => absurd hj (Nat.not_lt_zero _)⟩
theorem Rd.fat_cons {α β : Type} {r : Rd α} {q : Rd β} {n : Nat} {f : Field} {fs : List Field} {o : Nat} (ho : f.offset = o) (hc : P.cellsOf f.type = r.sz) (hr : r.At n enc P w spare held f.type) (hq : q.FAt n enc P w spare held fs (o + r.sz)) : (r.pair q).FAt n enc P w spare held (f :: fs) o := by
  intro cs xs hl h
  obtain ⟨x, xs, rfl⟩ : ∃ x ys, xs = x :: ys := by
    cases xs with
    | nil => simp at hl
    | cons x ys => exact ⟨x, ys, rfl⟩
  have h0 := h 0 f rfl
  obtain ⟨y, hw, hlen, ha⟩ := hr _ _ h0
  obtain ⟨z, hz, hb⟩ := hq cs xs (by simpa using hl) (fun i g hg => by simpa using h (i + 1) g (by simpa using hg))
  refine ⟨(y, z), ⟨hw, hz⟩, fun j hj => ?_⟩
  show AR (lawSig w) w ((r.av y ++ q.av z).getD j .any) _
  have hy := r.len y hw
  by_cases hjr : j < r.sz
  · have := ha j hjr
    rw [hc, ho] at this
    rw [List.getD_eq_getElem?_getD, List.getElem?_append_left (by omega), ← List.getD_eq_getElem?_getD]
    rw [List.getD_eq_getElem?_getD (l := (cs.drop o).take r.sz), List.getElem?_take, if_pos hjr, List.getElem?_drop, ← List.getD_eq_getElem?_getD] at this
    exact this
  · have hj' : j - r.sz < q.sz := by have : j < r.sz + q.sz := hj; omega
    have := hb (j - r.sz) hj'
    rw [List.getD_eq_getElem?_getD, List.getElem?_append_right (by omega), hy, ← List.getD_eq_getElem?_getD]
    rw [show o + r.sz + (j - r.sz) = o + j from by omega] at this
    exact this
theorem Rd.struct_at {α : Type} {r : Rd α} {t : TypeId} {fs : Array Field} {f : Nat} (ht : P.underlying t = some (.struct fs)) (hsz : P.cellsOf t = r.sz) (hf : ∀ n, f = n + 1 → r.FAt n enc P w spare held fs.toList 0) : r.At f enc P w spare held t := by
  intro cs x h
  obtain ⟨xs, n, hn, _, hcl, hxl, hx⟩ := DataW.trod_struct ht h
  obtain ⟨y, hw, ha⟩ := hf n hn cs xs (by simpa using hxl) (fun i f hi => hx i f (by simpa using hi))
  refine ⟨y, hw, by rw [hcl, hsz], fun j hj => ?_⟩
  have := ha j hj
  rwa [Nat.zero_add] at this
/-- Values: a kind, a text, names, values. -/
inductive Val where
  | mk (k : Int) (t : ByteArray) (ns : List ByteArray) (vs : List Val)
instance : Inhabited Val := ⟨.mk 0 ⟨#[]⟩ [] []⟩
theorem Val.ind {p : Val → Prop} (h : ∀ k t ns vs, (∀ v ∈ vs, p v) → p (.mk k t ns vs)) : ∀ v, p v :=
  Val.rec (motive_1 := p) (motive_2 := fun l => ∀ v ∈ l, p v) (fun k t ns vs ih => h k t ns vs ih) (fun _ h => absurd h List.not_mem_nil) (fun v l hv hl => List.forall_mem_cons.2 ⟨hv, hl⟩)
mutual
def Val.cells : Val → List AV
  | .mk k t ns vs => [.v (.int .i64 k), .v (.string t), .vsl ns.length (strs ns) none, .vsl vs.length (cellsL vs) none]
def cellsL : List Val → List AV
  | [] => []
  | v :: l => v.cells ++ cellsL l
end
mutual
def Val.wf : Val → Prop
  | .mk k t ns vs => (Lit.int .i64 k).wf = true ∧ t.size ≤ maxLen ∧ (ns.length ≤ maxLen ∧ ∀ s ∈ ns, s.size ≤ maxLen) ∧ vs.length ≤ maxLen ∧ wfL vs
def wfL : List Val → Prop
  | [] => True
  | v :: l => v.wf ∧ wfL l
end
theorem wfL_iff : ∀ {l : List Val}, wfL l ↔ ∀ v ∈ l, v.wf
  | [] => ⟨fun _ _ h => absurd h List.not_mem_nil, fun _ => trivial⟩
  | v :: l => by rw [wfL, List.forall_mem_cons, wfL_iff]
theorem cellsL_eq : ∀ (l : List Val), cellsL l = l.flatMap Val.cells
  | [] => rfl
  | v :: l => by rw [cellsL, List.flatMap_cons, cellsL_eq l]
theorem Val.cells_length : ∀ v : Val, v.cells.length = 4
  | .mk _ _ _ _ => by rw [Val.cells]; rfl
theorem cellsL_length : ∀ l : List Val, (cellsL l).length = l.length * 4
  | [] => rfl
  | v :: l => by rw [cellsL, List.length_append, Val.cells_length, cellsL_length l, List.length_cons]; omega
theorem cellsL_append : ∀ l m : List Val, cellsL (l ++ m) = cellsL l ++ cellsL m
  | [], m => rfl
  | v :: l, m => by rw [List.cons_append, cellsL, cellsL, cellsL_append l m, List.append_assoc]
theorem cellsL_at : ∀ (l : List Val) (k : Nat), k < l.length → ((cellsL l).drop (k * 4)).take 4 = (l.getD k default).cells
  | v :: l, 0, _ => by
    rw [cellsL, Nat.zero_mul, List.drop_zero, List.take_append_of_le_length (by rw [Val.cells_length]; exact Nat.le_refl _), List.take_of_length_le (by rw [Val.cells_length]; exact Nat.le_refl _)]
    rfl
  | v :: l, k + 1, h => by
    rw [cellsL, show (k + 1) * 4 = v.cells.length + k * 4 from by rw [Val.cells_length]; omega, List.drop_append, show v.cells.length + k * 4 - v.cells.length = k * 4 from by omega, List.drop_of_length_le (by omega), List.nil_append, cellsL_at l k (by simpa using h)]
    rfl
theorem Val.nr : ∀ v : Val, ∀ x ∈ v.cells, NR x := Val.ind fun k t ns vs ih x hx => by
  rw [Val.cells] at hx
  simp only [List.mem_cons, List.not_mem_nil, or_false] at hx
  rcases hx with rfl | rfl | rfl | rfl
  · exact NR.v _
  · exact NR.v _
  · refine NR.vsl fun c hc => ?_
    simp only [strs, List.mem_map] at hc
    obtain ⟨n, _, rfl⟩ := hc
    exact NR.v _
  · refine NR.vsl fun c hc => ?_
    rw [cellsL_eq, List.mem_flatMap] at hc
    obtain ⟨v, h1, h2⟩ := hc
    exact ih v h1 c h2
theorem cellsL_nr (l : List Val) : ∀ x ∈ cellsL l, NR x := fun x hx => by
  rw [cellsL_eq, List.mem_flatMap] at hx
  obtain ⟨v, h1, h2⟩ := hx
  exact v.nr x h2
def Rd.val : Rd Val := ⟨4, Val.cells, Val.wf, fun y _ => Val.cells_length y, fun _ _ => True⟩
theorem val_at {t tn : TypeId} {f0 f1 f2 f3 : Field} (ht : P.underlying t = some (.struct #[f0, f1, f2, f3])) (hsz : P.cellsOf t = 4)
    (o0 : f0.offset = 0) (o1 : f1.offset = 1) (o2 : f2.offset = 2) (o3 : f3.offset = 3)
    (c0 : P.cellsOf f0.type = 1) (c1 : P.cellsOf f1.type = 1) (c2 : P.cellsOf f2.type = 1) (c3 : P.cellsOf f3.type = 1)
    (u0 : P.underlying f0.type = some (.int .i64)) (u1 : P.underlying f1.type = some .string) (u2 : P.underlying f2.type = some (.slice tn)) (un : P.underlying tn = some .string) (cn : P.cellsOf tn = 1)
    (u3 : P.underlying f3.type = some (.slice t)) (f : Nat) : Rd.val.At f enc P w spare held t := by
  induction f using Nat.strongRecOn with
  | _ f ih =>
    have hs : (Rd.pair (Rd.int .i64) (Rd.pair Rd.str (Rd.pair Rd.str.slice (Rd.pair Rd.val.slice Rd.unit)))).At f enc P w spare held t := by
      refine Rd.struct_at ht (by rw [hsz]; rfl) (fun n hn => ?_)
      refine Rd.fat_cons o0 c0 ((Rd.int_is u0).at n) ?_
      refine Rd.fat_cons o1 c1 ((Rd.str_is u1).at n) ?_
      refine Rd.fat_cons o2 c2 ((Rd.slice_is u2 cn (by decide) (Rd.str_is un)).at n) ?_
      refine Rd.fat_cons o3 c3 ?_ (Rd.fat_nil n _)
      exact Rd.slice_at u3 (by rw [hsz]; rfl) (by show 0 < 4; decide) (fun m hm => ih m (by omega))
    intro cs x h
    obtain ⟨⟨k, s, ns, vs, _⟩, ⟨w1, w2, w3, w4, _⟩, hl, ha⟩ := hs cs x h
    refine ⟨.mk k s ns vs, ?_, hl, fun j hj => ?_⟩
    · show Val.wf _
      rw [Val.wf, wfL_iff]
      exact ⟨w1, w2, w3, w4⟩
    have := ha j hj
    have e : (Rd.pair (Rd.int .i64) (Rd.pair Rd.str (Rd.pair Rd.str.slice (Rd.pair Rd.val.slice Rd.unit)))).av (k, s, ns, vs, ()) = Val.cells (.mk k s ns vs) := by
      show [AV.v (.int .i64 k)] ++ ([AV.v (.string s)] ++ ([AV.vsl ns.length (ns.flatMap Rd.str.av) none] ++ ([AV.vsl vs.length (vs.flatMap Val.cells) none] ++ []))) = _
      rw [flat_strs, Val.cells, cellsL_eq]
      rfl
    rw [e] at this
    exact this
theorem Rd.val_is {t : TypeId} (h : ∀ f, Rd.val.At f enc P w spare held t) : Rd.val.Is enc P w spare held t := fun f cs x hx => by
  obtain ⟨y, h1, h2, h3⟩ := h f cs x hx
  exact ⟨y, h1, h2, h3, trivial⟩
end Go.Abs
namespace Go.Abs.S
open Go.Proofs
set_option linter.unusedVariables false
set_option linter.unusedSimpArgs false
/-- A text that is left; what is wrong. -/
abbrev St := List UInt8 × Int
def giveP (e : Int) (s : St) : St := if s.2 = 0 then ([], e) else s
def blanksP (s : St) : St := (s.1.dropWhile (blanks4.contains ·), s.2)
def takeP (p : List UInt8) (s : St) : St := ((if p.isPrefixOf s.1 = true then s.1.drop p.length else s.1), s.2)
def esc8 : ByteArray := ⟨#[34, 92, 47, 98, 102, 110, 114, 116]⟩
def esc8to : ByteArray := ⟨#[34, 92, 47, 8, 12, 10, 13, 9]⟩
def hexV (c : UInt8) : Nat := if c.toNat ≤ 57 then c.toNat - 48 else if c.toNat ≤ 70 then c.toNat - 55 else c.toNat - 87
def hex4 : List UInt8 → Nat
  | a :: b :: c :: d :: _ => ((hexV a * 16 + hexV b) * 16 + hexV c) * 16 + hexV d
  | _ => 0
/-- What stands behind a \. -/
def escP : St → ByteArray × St
  | ([], f) => (bs [], giveP 2 ([], f))
  | (c :: r, f) =>
    if 0 ≤ Lib.indexByte esc8.data.toList c then (esc8to.extract (Lib.indexByte esc8.data.toList c).toNat ((Lib.indexByte esc8.data.toList c).toNat + 1), (r, f))
    else if c.toNat ≠ 117 ∨ r.length < 4 ∨ Lib.trimS (r.take 4) hexs ≠ [] then (bs [], giveP 2 (r, f))
    else if 55296 ≤ hex4 r ∧ hex4 r < 57344 then (bs [], giveP 2 (r.drop 4, f))
    else (Utf8.encode (hex4 r), (r.drop 4, f))
/-- A text, behind its ". -/
def textP : Nat → List UInt8 → St → List UInt8 × St
  | 0, _, s => ([], s)
  | n + 1, acc, s =>
    if s.2 ≠ 0 then ([], s)
    else if Lib.idxFunc pq true (bs s.1) < 0 then ([], giveP 2 s)
    else
      let i := (Lib.idxFunc pq true (bs s.1)).toNat
      let l := s.1.drop i
      let d := Lib.decodeGo (bs l)
      if d.1 = 65533 ∧ 1 < d.2 then textP n (acc ++ s.1.take i ++ l.take d.2) (l.drop d.2, s.2)
      else if [34].isPrefixOf l = true then (acc ++ s.1.take i, (l.drop 1, s.2))
      else if [92].isPrefixOf l = true then textP n (acc ++ s.1.take i ++ bl (escP (l.drop 1, s.2)).1) (escP (l.drop 1, s.2)).2
      else textP n (acc ++ s.1.take i) (giveP 2 (l, s.2))
def textR (s : St) : List UInt8 × St := textP (s.1.length + 2) [] s
def idxL : List ByteArray → ByteArray → Bool
  | [], _ => false
  | a :: l, x => if x = a then true else idxL l x
/-- A page's next name, and its colon. -/
def nameP (l : List ByteArray) (s : St) : ByteArray × St :=
  let s1 := blanksP s
  let s2 := if [34].isPrefixOf s1.1 = true then takeP [34] s1 else giveP 2 s1
  let t := textR s2
  let s4 := if t.2.2 = 0 ∧ idxL l (bs t.1) = true then giveP 10 t.2 else t.2
  let s5 := blanksP s4
  let s6 := if [58].isPrefixOf s5.1 = true then takeP [58] s5 else giveP 2 s5
  (bs t.1, s6)
/-- A list's, or a page's, up to its end. -/
def partsP (V : St → Val × St) (kind : Int) (shut : List UInt8) : Nat → List ByteArray → List Val → St → Val × St
  | 0, _, _, s => (default, s)
  | n + 1, ns, vs, s =>
    if s.2 ≠ 0 then (default, s)
    else
      let s1 := if 64 ≤ vs.length then giveP 11 s else s
      let nm := nameP ns s1
      let ns' := if kind = 6 then ns ++ [nm.1] else ns
      let s2 := if kind = 6 then nm.2 else s1
      let x := V s2
      let s4 := blanksP x.2
      if shut.isPrefixOf s4.1 = true then (.mk kind (bs []) ns' (vs ++ [x.1]), takeP shut s4)
      else partsP V kind shut n ns' (vs ++ [x.1]) (if [44].isPrefixOf s4.1 = true then takeP [44] s4 else giveP 2 s4)
def partsR (V : St → Val × St) (kind : Int) (shut : List UInt8) (s : St) : Val × St :=
  if shut.isPrefixOf (blanksP s).1 = true then (.mk kind (bs []) [] [], takeP shut (blanksP s)) else partsP V kind shut 67 [] [] (blanksP s)
def nullB : List UInt8 := [110, 117, 108, 108]
def falseB : List UInt8 := [102, 97, 108, 115, 101]
def trueB : List UInt8 := [116, 114, 117, 101]
/-- A value, at a depth; so many depths below are left. -/
def valueP : Nat → Int → St → Val × St
  | 0, _, s => (default, s)
  | n + 1, d, s =>
    let s1 := blanksP s
    let s2 := if 8 < d ∧ s1.1 ≠ [] then giveP 9 s1 else s1
    if nullB.isPrefixOf s2.1 = true then (.mk 0 (bs []) [] [], takeP nullB s2)
    else if falseB.isPrefixOf s2.1 = true then (.mk 1 (bs []) [] [], takeP falseB s2)
    else if trueB.isPrefixOf s2.1 = true then (.mk 2 (bs []) [] [], takeP trueB s2)
    else if [34].isPrefixOf s2.1 = true then (.mk 4 (bs (textR (takeP [34] s2)).1) [] [], (textR (takeP [34] s2)).2)
    else if [91].isPrefixOf s2.1 = true then partsR (valueP n (d + 1)) 5 [93] (takeP [91] s2)
    else if [123].isPrefixOf s2.1 = true then partsR (valueP n (d + 1)) 6 [125] (takeP [123] s2)
    else if nuL s2.1 = 0 ∨ 40 < nuL s2.1 then (default, giveP 2 s2)
    else (.mk 3 (bs (s2.1.take (nuL s2.1))) [] [], (s2.1.drop (nuL s2.1), s2.2))
/-- A text's value, or what is wrong. -/
def parseP (l : List UInt8) : Val × Int :=
  let r := valueP 10 1 (l, 0)
  let s := blanksP r.2
  let s := if s.1 ≠ [] then giveP 2 s else s
  if s.2 ≠ 0 then (default, s.2) else (r.1, 0)
set_option maxRecDepth 100000
set_option maxHeartbeats 4000000
theorem dec_one (l : List UInt8) (h : bw l 0 < 128) : Lib.decodeL l = (bw l 0, 1) := by
  rw [Lib.decodeL_N]
  show Lib.decodeN l.length (bw l 0) (bw l 1) (bw l 2) (bw l 3) = _
  unfold Lib.decodeN
  rw [if_pos h]
theorem dec_more (l : List UInt8) (h : 2 ≤ runeL l) : ∃ v, 128 ≤ v ∧ Lib.decodeL l = (v, runeL l) := by
  have h0 := bw_lt l 0
  have h1 := bw_lt l 1
  have h2 := bw_lt l 2
  have h3 := bw_lt l 3
  rw [Lib.decodeL_N]
  show ∃ v, 128 ≤ v ∧ Lib.decodeN l.length (bw l 0) (bw l 1) (bw l 2) (bw l 3) = _
  unfold Lib.decodeN
  rcases rune_cases l (by omega) with ⟨e, c0⟩ | ⟨e, c0, c1, g1, g2, g3⟩ | ⟨e, c0, c1, c2, g1, g2, g3, g4⟩ | ⟨e, c0, c1, c2, c3, g1, g2, g3, g4, g5⟩
  · omega
  · rw [e]
    unfold okc at g2
    unfold fitv at g3
    rw [if_neg c0, if_pos (by omega), if_pos (by omega)]
    exact ⟨_, by omega, rfl⟩
  · rw [e]
    unfold okc at g2 g3
    unfold fitv at g4
    rw [if_neg c0, if_neg (by omega), if_pos (by omega), if_pos (by omega)]
    exact ⟨_, by omega, rfl⟩
  · rw [e]
    unfold okc at g2 g3 g4
    unfold fitv at g5
    rw [if_neg c0, if_neg (by omega), if_neg (by omega), if_pos (by omega), if_pos (by omega)]
    exact ⟨_, by omega, rfl⟩
theorem dec_pos (l : List UInt8) : 1 ≤ (Lib.decodeL l).2 := by
  rw [Lib.decodeL_N]
  exact Lib.decodeN_ge1 _ _ _ _ _
/-- Where the first sign to look at stands, over lists. -/
def ixF : Nat → List UInt8 → Int
  | 0, _ => -1
  | f + 1, l => if l = [] then -1 else if pq (Lib.decodeL l).1 = true then 0 else if ixF f (l.drop (Lib.decodeL l).2) < 0 then -1 else ixF f (l.drop (Lib.decodeL l).2) + (Lib.decodeL l).2
theorem ixF_from (L : List UInt8) : ∀ (f pos : Nat), Lib.idxFuncFrom pq true (bs L) f pos = if ixF f (L.drop pos) < 0 then -1 else ixF f (L.drop pos) + pos
  | 0, pos => by
    unfold Lib.idxFuncFrom ixF
    rfl
  | f + 1, pos => by
    unfold Lib.idxFuncFrom ixF
    rw [bs_size]
    have hd : Lib.decodeL (L.drop pos) = Utf8.decode (bs L) pos := Lib.decodeL_drop (bs L) pos
    rw [← hd]
    by_cases hp : pos < L.length
    · have hne : L.drop pos ≠ [] := fun h => by
        have := congrArg List.length h
        rw [List.length_drop, List.length_nil] at this
        omega
      rw [if_pos hp, if_neg hne]
      by_cases hq : pq (Lib.decodeL (L.drop pos)).1 = true
      · rw [if_pos hq, if_pos hq, if_neg (by omega)]
        omega
      · rw [if_neg hq, if_neg hq, ixF_from L f, List.drop_drop]
        split
        · rfl
        · rw [if_neg (by omega)]
          omega
    · have he : L.drop pos = [] := List.drop_of_length_le (by omega)
      rw [if_neg hp, if_pos he]
      rfl
theorem ixF_two : ∀ (f g : Nat) (l : List UInt8), l.length ≤ f → l.length ≤ g → ixF f l = ixF g l
  | 0, g, l, h, _ => by
    have : l = [] := List.eq_nil_of_length_eq_zero (by omega)
    subst this
    cases g with
    | zero => rfl
    | succ g =>
      unfold ixF
      rw [if_pos rfl]
  | f + 1, 0, l, _, h => by
    have : l = [] := List.eq_nil_of_length_eq_zero (by omega)
    subst this
    unfold ixF
    rw [if_pos rfl]
  | f + 1, g + 1, l, h1, h2 => by
    have hw := dec_pos l
    have hd : (l.drop (Lib.decodeL l).2).length = l.length - (Lib.decodeL l).2 := List.length_drop
    unfold ixF
    by_cases h0 : l = []
    · rw [if_pos h0, if_pos h0]
    rw [if_neg h0, if_neg h0, ixF_two f g _ (by omega) (by omega)]
theorem ix_eq (l : List UInt8) (f : Nat) (h : l.length ≤ f) : Lib.idxFunc pq true (bs l) = ixF f l := by
  unfold Lib.idxFunc
  rw [ixF_from, bs_size, List.drop_zero, ixF_two l.length f l (Nat.le_refl _) h]
  split
  · have : ixF f l = -1 := by
      have hx : ∀ (f : Nat) (l : List UInt8), ixF f l = -1 ∨ 0 ≤ ixF f l := by
        intro f
        induction f with
        | zero => exact fun l => .inl rfl
        | succ f ih =>
          intro l
          unfold ixF
          split
          · exact .inl rfl
          split
          · exact .inr (Int.le_refl _)
          split
          · exact .inl rfl
          · exact .inr (by omega)
      rcases hx f l with h | h
      · exact h
      · omega
    rw [this]
  · omega
theorem ix_step (l : List UInt8) (h : l ≠ []) : Lib.idxFunc pq true (bs l) = if pq (Lib.decodeL l).1 = true then 0 else if Lib.idxFunc pq true (bs (l.drop (Lib.decodeL l).2)) < 0 then -1 else Lib.idxFunc pq true (bs (l.drop (Lib.decodeL l).2)) + (Lib.decodeL l).2 := by
  have hd : (l.drop (Lib.decodeL l).2).length = l.length - (Lib.decodeL l).2 := List.length_drop
  have hp := List.length_pos_iff.2 h
  rw [ix_eq l (l.length + 1) (by omega), ix_eq _ l.length (by omega), ixF, if_neg h]
/-- What a sign at the beginning that is taken as it is does to the reading of a text. -/
theorem text_plain (n : Nat) (acc u s : List UInt8) (v : Nat) (hu : u ≠ []) (hd : Lib.decodeL (u ++ s) = (v, u.length)) (hq : pq v = false) : textP (n + 1) acc (u ++ s, 0) = textP (n + 1) (acc ++ u) (s, 0) := by
  have hne : u ++ s ≠ [] := fun h => hu (List.append_eq_nil_iff.1 h).1
  have hs := ix_step (u ++ s) hne
  rw [hd] at hs
  simp only at hs
  rw [if_neg (by rw [hq]; decide), List.drop_left] at hs
  rw [textP, textP]
  simp only [ne_eq, not_true_eq_false, if_false]
  obtain ⟨k, hk⟩ : ∃ k, Lib.idxFunc pq true (bs s) = k := ⟨_, rfl⟩
  rw [hk] at hs ⊢
  rw [hs]
  by_cases h0 : k < 0
  · rw [if_pos h0, if_pos h0, if_pos (by decide)]
    rfl
  · rw [if_neg h0, if_neg h0, if_neg (by omega)]
    obtain ⟨j, rfl⟩ := Int.eq_ofNat_of_zero_le (show 0 ≤ k by omega)
    have e1 : ((j : Int) + (u.length : Int)).toNat = u.length + j := by omega
    have e2 : (u ++ s).drop (u.length + j) = s.drop j := by rw [List.drop_append]; simp
    have e3 : (u ++ s).take (u.length + j) = u ++ s.take j := by rw [List.take_append, List.take_of_length_le (show u.length ≤ u.length + j by omega), Nat.add_sub_cancel_left]
    rw [e1, Int.toNat_natCast, e2, e3]
    simp only [List.append_assoc]
def hx (n : Nat) : UInt8 := if n < 10 then UInt8.ofNat (48 + n) else UInt8.ofNat (87 + n)
/-- A sign of a text, as it is printed. -/
def esc1 (c : UInt8) : List UInt8 := if c.toNat = 34 ∨ c.toNat = 92 then [92, c] else if c.toNat < 32 then [92, 117, 48, 48, hx (c.toNat / 16), hx (c.toNat % 16)] else [c]
def quoB (l : List UInt8) : List UInt8 := l.flatMap esc1
def quoL (l : List UInt8) : List UInt8 := 34 :: quoB l ++ [34]
theorem esc1_len (c : UInt8) : 1 ≤ (esc1 c).length ∧ (esc1 c).length ≤ 6 := by
  unfold esc1
  split
  · exact ⟨by simp, by simp⟩
  split
  · exact ⟨by simp, by simp⟩
  · exact ⟨by simp, by simp⟩
theorem quoB_len : ∀ l : List UInt8, l.length ≤ (quoB l).length ∧ (quoB l).length ≤ 6 * l.length
  | [] => ⟨Nat.le_refl _, Nat.le_refl _⟩
  | c :: l => by
    have h := quoB_len l
    have h1 := esc1_len c
    have e : quoB (c :: l) = esc1 c ++ quoB l := rfl
    rw [e, List.length_append, List.length_cons]
    omega
theorem quoB_append (l m : List UInt8) : quoB (l ++ m) = quoB l ++ quoB m := List.flatMap_append
theorem quoB_big : ∀ u : List UInt8, (∀ i, i < u.length → 128 ≤ bw u i) → quoB u = u
  | [], _ => rfl
  | c :: u, h => by
    have h0 : 128 ≤ c.toNat := h 0 (by simp)
    have e : quoB (c :: u) = esc1 c ++ quoB u := rfl
    have e1 : esc1 c = [c] := by
      unfold esc1
      rw [if_neg (by omega), if_neg (by omega)]
    rw [e, e1, quoB_big u (fun i hi => h (i + 1) (by simpa using hi))]
    rfl
theorem esc_low : ∀ n : Nat, n < 32 → hexV (hx (n / 16)) = n / 16 ∧ hexV (hx (n % 16)) = n % 16 ∧ Lib.trimS [48, 48, hx (n / 16), hx (n % 16)] hexs = [] ∧ Utf8.encode (n : Int) = ⟨#[UInt8.ofNat n]⟩ := by decide +kernel
theorem idx_u : Lib.indexByte esc8.data.toList 117 = -1 := by decide +kernel
theorem escP_cons (c : UInt8) (r : List UInt8) (f : Int) : escP (c :: r, f) =
    if 0 ≤ Lib.indexByte esc8.data.toList c then (esc8to.extract (Lib.indexByte esc8.data.toList c).toNat ((Lib.indexByte esc8.data.toList c).toNat + 1), (r, f))
    else if c.toNat ≠ 117 ∨ r.length < 4 ∨ Lib.trimS (r.take 4) hexs ≠ [] then (bs [], giveP 2 (r, f))
    else if 55296 ≤ hex4 r ∧ hex4 r < 57344 then (bs [], giveP 2 (r.drop 4, f))
    else (Utf8.encode (hex4 r), (r.drop 4, f)) := rfl
theorem escP_low (c : UInt8) (h : c.toNat < 32) (r : List UInt8) : escP (117 :: 48 :: 48 :: hx (c.toNat / 16) :: hx (c.toNat % 16) :: r, 0) = (bs [c], (r, 0)) := by
  obtain ⟨h1, h2, h3, h4⟩ := esc_low c.toNat h
  have e0 : ∀ x y : UInt8, hex4 (48 :: 48 :: x :: y :: r) = hexV x * 16 + hexV y := fun x y => by
    show ((0 * 16 + 0) * 16 + hexV x) * 16 + hexV y = _
    omega
  have e1 := e0 (hx (c.toNat / 16)) (hx (c.toNat % 16))
  rw [h1, h2] at e1
  have e2 : hex4 (48 :: 48 :: hx (c.toNat / 16) :: hx (c.toNat % 16) :: r) = c.toNat := by omega
  have e3 : ¬ ((117 : UInt8).toNat ≠ 117 ∨ (48 :: 48 :: hx (c.toNat / 16) :: hx (c.toNat % 16) :: r).length < 4 ∨ Lib.trimS ((48 :: 48 :: hx (c.toNat / 16) :: hx (c.toNat % 16) :: r).take 4) hexs ≠ []) := by
    rintro (h | h | h)
    · exact h rfl
    · simp only [List.length_cons] at h
      omega
    · exact h h3
  rw [escP_cons]
  rw [idx_u, if_neg (by decide), if_neg e3, e2, if_neg (by omega), h4]
  have : UInt8.ofNat c.toNat = c := UInt8.ofNat_toNat
  rw [this]
  rfl
theorem escP_same (c : UInt8) (h : c.toNat = 34 ∨ c.toNat = 92) (r : List UInt8) : escP (c :: r, 0) = (bs [c], (r, 0)) := by
  have hc : c = 34 ∨ c = 92 := by
    rcases h with h | h
    · exact .inl (UInt8.toNat_inj.1 h)
    · exact .inr (UInt8.toNat_inj.1 h)
  rcases hc with rfl | rfl <;> rfl
theorem dec_ascii (c : UInt8) (s : List UInt8) (h : c.toNat < 128) : Lib.decodeL (c :: s) = (c.toNat, 1) := dec_one (c :: s) h
theorem pq_ascii (n : Nat) (h : n < 128) : pq n = (decide (n = 34) || decide (n = 92) || decide (n < 32)) := by
  have : ∀ n, n < 128 → pq n = (decide (n = 34) || decide (n = 92) || decide (n < 32)) := by decide +kernel
  exact this n h
theorem pq_more (v : Nat) (h : 128 ≤ v) : pq v = decide (v = 65533) := by
  unfold pq
  have e1 : ((v : Int) == 34) = false := by rw [beq_eq_false_iff_ne]; omega
  have e2 : ((v : Int) == 92) = false := by rw [beq_eq_false_iff_ne]; omega
  have e3 : decide ((v : Int) < 32) = false := decide_eq_false (by omega)
  have e4 : ((v : Int) == 65533) = decide (v = 65533) := by
    rw [Bool.eq_iff_iff, beq_iff_eq, decide_eq_true_eq]
    omega
  rw [e1, e2, e3, e4]
  rfl
/-- A backslash, and what stands behind it. -/
theorem text_back (n : Nat) (acc s : List UInt8) : textP (n + 1) acc (92 :: s, 0) = textP n (acc ++ bl (escP (s, 0)).1) (escP (s, 0)).2 := by
  have hd : Lib.decodeL (92 :: s) = (92, 1) := dec_ascii 92 s (by decide)
  have hx : Lib.idxFunc pq true (bs (92 :: s)) = 0 := by
    rw [ix_step _ (List.cons_ne_nil _ _), hd, if_pos (by decide)]
  have hg : Lib.decodeGo (bs (92 :: s)) = (92, 1) := by
    unfold Lib.decodeGo
    rw [if_neg (by rw [bs_size]; simp)]
    exact hd
  rw [textP]
  simp only [ne_eq, not_true_eq_false, if_false, hx, Int.lt_irrefl, Int.toNat_zero, List.drop_zero, List.take_zero, List.append_nil, hg]
  rw [if_neg (by decide), if_neg (by simp [List.isPrefixOf]), if_pos (by simp [List.isPrefixOf])]
  rfl
theorem text_shut (n : Nat) (acc s : List UInt8) : textP (n + 1) acc (34 :: s, 0) = (acc, (s, 0)) := by
  have hd : Lib.decodeL (34 :: s) = (34, 1) := dec_ascii 34 s (by decide)
  have hx : Lib.idxFunc pq true (bs (34 :: s)) = 0 := by
    rw [ix_step _ (List.cons_ne_nil _ _), hd, if_pos (by decide)]
  have hg : Lib.decodeGo (bs (34 :: s)) = (34, 1) := by
    unfold Lib.decodeGo
    rw [if_neg (by rw [bs_size]; simp)]
    exact hd
  rw [textP]
  simp only [ne_eq, not_true_eq_false, if_false, hx, Int.lt_irrefl, Int.toNat_zero, List.drop_zero, List.take_zero, List.append_nil, hg]
  rw [if_neg (by decide), if_pos (by simp [List.isPrefixOf])]
  rfl
theorem text_bad (n : Nat) (acc u s : List UInt8) (hu : 2 ≤ u.length) (hd : Lib.decodeL (u ++ s) = (65533, u.length)) : textP (n + 1) acc (u ++ s, 0) = textP n (acc ++ u) (s, 0) := by
  have hne : u ++ s ≠ [] := fun h => by
    have := (List.append_eq_nil_iff.1 h).1
    subst this
    exact absurd hu (by decide)
  have hx : Lib.idxFunc pq true (bs (u ++ s)) = 0 := by
    rw [ix_step _ hne, hd, if_pos (show pq 65533 = true by decide)]
  have hg : Lib.decodeGo (bs (u ++ s)) = (65533, u.length) := by
    unfold Lib.decodeGo
    rw [if_neg (by rw [bs_size, List.length_append]; omega)]
    exact hd
  rw [textP]
  simp only [ne_eq, not_true_eq_false, if_false, hx, Int.lt_irrefl, Int.toNat_zero, List.drop_zero, List.take_zero, List.append_nil, hg]
  rw [if_pos (by first | exact ⟨rfl, by omega⟩ | exact ⟨trivial, by omega⟩ | omega), List.take_left, List.drop_left]
theorem rightL_rune (t : List UInt8) (ht : t ≠ []) (h : rightL t = true) : runeL t ≠ 0 ∧ rightL (t.drop (runeL t)) = true := by
  rw [rightL_step t ht] at h
  by_cases h0 : runeL t = 0
  · rw [if_pos h0] at h
    cases h
  · rw [if_neg h0] at h
    exact ⟨h0, h⟩
/-- A text that was printed is read as it was. -/
theorem text_quo : ∀ (m : Nat) (t : List UInt8), t.length ≤ m → rightL t = true → ∀ (n : Nat) (acc r : List UInt8), t.length < n → textP n acc (quoB t ++ 34 :: r, 0) = (acc ++ t, (r, 0))
  | 0, t, hm, _, n, acc, r, hn => by
    have : t = [] := List.eq_nil_of_length_eq_zero (by omega)
    subst this
    obtain ⟨n, rfl⟩ : ∃ k, n = k + 1 := ⟨n - 1, by omega⟩
    rw [List.append_nil]
    exact text_shut n acc r
  | m + 1, t, hm, hr, n, acc, r, hn => by
    obtain ⟨n, rfl⟩ : ∃ k, n = k + 1 := ⟨n - 1, by omega⟩
    by_cases ht : t = []
    · subst ht
      rw [List.append_nil]
      exact text_shut n acc r
    obtain ⟨h0, h1⟩ := rightL_rune t ht hr
    have hle := rune_le t ht
    obtain ⟨u, hu⟩ : ∃ u, t.take (runeL t) = u := ⟨_, rfl⟩
    obtain ⟨t', ht'⟩ : ∃ u, t.drop (runeL t) = u := ⟨_, rfl⟩
    have hul : u.length = runeL t := by rw [← hu, List.length_take]; omega
    have htt : t = u ++ t' := by rw [← hu, ← ht', List.take_append_drop]
    have htl : t'.length + runeL t = t.length := by rw [← ht', List.length_drop]; omega
    rw [ht'] at h1
    have ih := fun n acc hn => text_quo m t' (by omega) h1 n acc r hn
    have hq : quoB t ++ 34 :: r = quoB u ++ (quoB t' ++ 34 :: r) := by rw [htt, quoB_append, List.append_assoc]
    rw [hq]
    obtain ⟨S, hS⟩ : ∃ S, quoB t' ++ 34 :: r = S := ⟨_, rfl⟩
    rw [hS] at ih ⊢
    have hacc : acc ++ t = acc ++ u ++ t' := by rw [htt, List.append_assoc]
    rw [hacc]
    by_cases h2 : 2 ≤ runeL t
    · have hbig : ∀ i, i < u.length → 128 ≤ bw u i := fun i hi => by
        rw [← hu, bw_take _ _ _ (by omega)]
        exact rune_big t h2 i (by omega)
      rw [quoB_big u hbig]
      have hre : runeL (u ++ S) = runeL t := by
        refine rune_ext t (u ++ S) h0 (fun i hi => ?_) (by rw [List.length_append]; omega)
        rw [bw_append_left _ _ _ (by omega), ← hu, bw_take _ _ _ hi]
      obtain ⟨v, hv, hd⟩ := dec_more (u ++ S) (by omega)
      rw [hre, ← hul] at hd
      by_cases h65 : v = 65533
      · subst h65
        rw [text_bad n acc u S (by omega) hd]
        exact ih n _ (by omega)
      · have hq : pq v = false := by rw [pq_more v hv]; exact decide_eq_false h65
        rw [text_plain n acc u S v (fun h => by rw [h] at hul; simp at hul; omega) hd hq]
        exact ih (n + 1) _ (by omega)
    · have hone : runeL t = 1 := by omega
      have hb : bw t 0 < 128 := by
        rcases rune_cases t h0 with ⟨e, c0⟩ | ⟨e, _⟩ | ⟨e, _⟩ | ⟨e, _⟩
        · exact c0
        all_goals omega
      obtain ⟨c, rfl⟩ : ∃ c, u = [c] := by
        match u, hul with
        | [c], _ => exact ⟨c, rfl⟩
        | [], h => rw [hone] at h; cases h
        | _ :: _ :: _, h => rw [hone] at h; simp at h
      have hc : c.toNat < 128 := by
        rw [htt] at hb
        exact hb
      have e : quoB [c] = esc1 c := List.append_nil _
      rw [e]
      unfold esc1
      by_cases k1 : c.toNat = 34 ∨ c.toNat = 92
      · rw [if_pos k1]
        show textP (n + 1) acc (92 :: c :: S, 0) = _
        rw [text_back, escP_same c k1]
        exact ih n _ (by omega)
      rw [if_neg k1]
      by_cases k2 : c.toNat < 32
      · rw [if_pos k2]
        show textP (n + 1) acc (92 :: 117 :: 48 :: 48 :: hx (c.toNat / 16) :: hx (c.toNat % 16) :: S, 0) = _
        rw [text_back, escP_low c k2]
        exact ih n _ (by omega)
      · rw [if_neg k2]
        have hq : pq c.toNat = false := by
          rw [pq_ascii _ hc, decide_eq_false (by omega), decide_eq_false (by omega), decide_eq_false k2]
          rfl
        rw [text_plain n acc [c] S c.toNat (List.cons_ne_nil _ _) (dec_ascii c S hc) hq]
        exact ih (n + 1) _ (by omega)
theorem textR_quo (t r : List UInt8) (h : rightL t = true) : textR (quoB t ++ 34 :: r, 0) = (t, (r, 0)) := by
  unfold textR
  have h1 := (quoB_len t).1
  exact text_quo t.length t (Nat.le_refl _) h _ [] r (by simp only [List.length_append, List.length_cons]; omega)
def impCodB : FuncId → Bool := fun f => f == 17 || f == 18 || f == 19 || f == 20 || f == 21 || f == 29 || f == 31 || f == 32 || f == 33 || f == 34 || f == 40 || f == 46 || f == 47 || f == 68
/-- (*strings.Builder).WriteString -/
def lc29 : LCode := .seq (.reg []
  [o1 4 (.assign (.const (.int .i64 0))),
  o1 5 (.assign (.const .nilIface))]) (.seq (.reg []
  [o1 6 (.move (.tmp 0)),
  o1 7 (.call ⟨.value (.func 40), #[.tmp 6], #[48]⟩)]) (.seq (.reg []
  [o1 8 (.move (.tmp 0)),
  o1 9 (.move (.tmp 0)),
  o1 10 (.nilCheck (.tmp 9)),
  o1 11 (.fieldAddr 51 (.tmp 10) 1),
  o1 12 (.load 49 (.tmp 11)),
  o1 13 (.move (.tmp 1)),
  o1 14 (.call ⟨.builtin .append, #[.tmp 12, .tmp 13], #[49, 9]⟩),
  o1 15 (.nilCheck (.tmp 8)),
  o1 16 (.fieldAddr 51 (.tmp 15) 1),
  o3 (.store 49 (.tmp 16) (.tmp 14))]) (.seq (.reg []
  [o1 17 (.move (.tmp 1)),
  o1 18 (.call ⟨.builtin .len, #[.tmp 17], #[9]⟩),
  o1 4 (.assign (.tmp 18)),
  o1 5 (.assign (.const .nilIface))]) (.ret))))
theorem ls29 : Tryz.f29.body.map (strip Tryz.prog impCodB) = some lc29 := by kernel_rfl
theorem lcallk29 {args : List AV} (hargs : args.length ≤ 19) {H0 : AHeap} {r0 : AV} {H0' : AHeap}
    (h : lavc Tryz.prog glob lc29 (args ++ List.replicate (19 - args.length) (.v undef)) H0 fun e t H => (e = .normal ∨ e = .ret) ∧ aret Tryz.prog t H [Go.ResultVar.tmp 4, Go.ResultVar.tmp 5] fun r => r = r0 ∧ H = H0') :
    ACall Tryz.prog glob false 29 args H0 r0 H0' := LCallK' ctx Tryz.func29 (by kernel_rfl) ls29 (by kernel_rfl) (by kernel_rfl) hargs h
/-- (*strings.Builder).String -/
def lc18 : LCode := .seq (.reg []
  [o1 2 (.assign (.const (.string { data := #[] })))]) (.seq (.reg [o1 3 (.move (.tmp 0)),
  o1 4 (.nilCheck (.tmp 3)),
  o1 5 (.fieldAddr 51 (.tmp 4) 1),
  o1 6 (.load 49 (.tmp 5)),
  o1 7 (.call ⟨.builtin .unsafeSliceData, #[.tmp 6], #[49]⟩),
  o1 8 (.move (.tmp 0)),
  o1 9 (.nilCheck (.tmp 8)),
  o1 10 (.fieldAddr 51 (.tmp 9) 1),
  o1 11 (.load 49 (.tmp 10)),
  o1 12 (.call ⟨.builtin .len, #[.tmp 11], #[49]⟩)]
  [o1 13 (.call ⟨.builtin .unsafeString, #[.tmp 7, .tmp 12], #[70, 3]⟩),
  o1 2 (.assign (.tmp 13))]) (.ret))
theorem ls18 : Tryz.f18.body.map (strip Tryz.prog impCodB) = some lc18 := by kernel_rfl
theorem lcallk18 {args : List AV} (hargs : args.length ≤ 14) {H0 : AHeap} {r0 : AV} {H0' : AHeap}
    (h : lavc Tryz.prog glob lc18 (args ++ List.replicate (14 - args.length) (.v undef)) H0 fun e t H => (e = .normal ∨ e = .ret) ∧ aret Tryz.prog t H [Go.ResultVar.tmp 2] fun r => r = r0 ∧ H = H0') :
    ACall Tryz.prog glob false 18 args H0 r0 H0' := LCallK' ctx Tryz.func18 (by kernel_rfl) ls18 (by kernel_rfl) (by kernel_rfl) hargs h
end Go.Abs.S
namespace Go.Abs.S
attribute [local go_sem] lguard aopO aop aenv toAV tput aLoad aStore vcells aBin aNilI aUn aAlloc aBox aBuild aBSlice afill aConv isIntT aappZ aCap aArr aMM aMake aSlice bnd3 bnd aFldAddr aFld aIdxAddr aIdx aExt aLen aCopy aEq0 bAV aUb aapp aappQ agh acont List.getD_cons_zero List.getD_cons_succ List.set_cons_zero List.set_cons_succ List.getElem?_cons_zero List.getElem?_cons_succ List.length_cons List.length_nil List.map_cons List.map_nil ints_length if_true if_false Bool.false_eq_true true_and and_true eq_self ne_eq not_false_eq_true not_true_eq_false beq_self_eq_true Nat.zero_add Nat.add_zero Nat.mul_one Nat.zero_mul Int.toNat_natCast List.toList_toArray List.all_cons List.all_nil AV.one Value.oneCell' Bool.and_true Bool.true_and forall_const true_implies false_implies implies_true Option.map_some Option.map_none Option.isSome_some Option.isSome_none imp_self rdP_flat rdP_row splice_one ints_set ints_get List.append_nil List.cons_append List.nil_append List.getElem?_toArray List.drop_zero ints_drop ints_take List.take_of_length_le splice_all ints_one Option.some.injEq Option.getD_some List.length_replicate zArr List.map_replicate rep_ints splice_intsR List.length_set List.length_append List.flatten_replicate_singleton rep_slice rep_string rep_bool rep_iface List.replicate_zero if_pos if_neg List.mapM_cons List.mapM_nil Option.pure_def Option.bind_eq_bind Option.bind_some Bool.true_eq_false Bool.not_false Bool.not_true get_concat set_concat
open Go.Proofs
set_option linter.unusedVariables false
set_option linter.unusedSimpArgs false
set_option maxRecDepth 100000
set_option maxHeartbeats 2000000
theorem sizeB : (Tryz.prog.info? 51).map (·.size) = some 2 := by kernel_rfl
theorem liesB1 : sameLayout Tryz.prog Tryz.prog.depth 51 51 = true := by kernel_rfl
theorem depthB : Tryz.prog.depth - 1 + 1 = Tryz.prog.depth := by kernel_rfl
theorem cellsB : Tryz.prog.cellsOf 51 = 2 := by kernel_rfl
theorem liesB (m : Nat) (h : 2 ≤ m) : liesAt Tryz.prog Tryz.prog.depth 51 (m / Tryz.prog.cellsOf 51) 0 51 1 = true := by
  have h1 : ∀ d, rowAt Tryz.prog (sameLayout Tryz.prog Tryz.prog.depth · 51) (d + 1) 51 (m / Tryz.prog.cellsOf 51) 0 1 = true := by
    intro d
    have h2 : 1 ≤ m / 2 := by omega
    simp [rowAt, cellsB, liesB1, h2]
  have h3 : ∀ d, liesAt Tryz.prog (d + 1) 51 (m / Tryz.prog.cellsOf 51) 0 51 1 = true := by
    intro d
    have := h1 (Tryz.prog.depth - 1)
    rw [depthB] at this
    simp [liesAt, this]
  have := h3 (Tryz.prog.depth - 1)
  rwa [depthB] at this
theorem noEscape (x : Value) (w : World) : (callFunc 59 #[x]).run Tryz.prog w = .ok (.value x) w := by
  rw [run_callFunc_extern Tryz.func59 (by kernel_rfl) (by kernel_rfl) (by kernel_rfl) (e := Extern.AbiNoEscape.same) (by kernel_rfl)]
  rw [Lib.run_noEscape]
  rfl
theorem check_used (b : Nat) (w : World) (h0 : w.cell? ⟨b, 0, none⟩ = some (.pointer (some ⟨b, 0, none⟩))) :
    Calls Tryz.prog 40 #[.pointer (some ⟨b, 0, none⟩)] w fun e w' => e = .returned (.tuple #[]) ∧ w' = w := by
  obtain ⟨j, hj, _⟩ := Option.map_eq_some_iff.1 sizeB
  go_enter Tryz.func40, Tryz.ntmps40
  go_wp2
  rw [Lib.run_neq_ptr_same w _ Tryz.underlying48 hj]
  go_wp2
  go_end0
  exact ⟨rfl, rfl⟩
theorem check_fresh (b m : Nat) (hm : 2 ≤ m) (w : World) (h0 : w.cell? ⟨b, 0, none⟩ = some (.pointer none)) (hsh : w.shape? b = some (51, m)) (hfz : w.frozen? ⟨b, 0, none⟩ = false) :
    Calls Tryz.prog 40 #[.pointer (some ⟨b, 0, none⟩)] w fun e w' => e = .returned (.tuple #[]) ∧ w' = w.setCell ⟨b, 0, none⟩ (.pointer (some ⟨b, 0, none⟩)) := by
  obtain ⟨j, hj, hjs⟩ := Option.map_eq_some_iff.1 sizeB
  go_enter Tryz.func40, Tryz.ntmps40
  go_wp2
  rw [Lib.run_to_unsafe w ⟨b, 0, none⟩ Tryz.underlying48 Tryz.underlying93 hj (by rw [hjs]; decide) hsh (by show 0 < m; omega)]
  simp only [Result.andThen]
  rw [Oper.upon_value]
  go_wp2
  rw [noEscape]
  rw [Oper.upon_value]
  go_wp2
  rw [Lib.run_from_unsafe w ⟨b, 0, none⟩ Tryz.underlying93 Tryz.underlying48 hj hsh (liesB m hm)]
  simp only [Result.andThen]
  rw [Oper.upon_value]
  go_wp2
  go_end0
  exact ⟨rfl, rfl⟩
/-- The check whether a builder was copied: nothing that is seen here turns. -/
theorem check_a {H : AHeap} {b v : Nat} {y : AV} (hb : H[b]? = some ⟨[.bad b v, y], v, true, 51⟩) : ACall Tryz.prog glob false 40 [.ptr b v 0] H (.tup []) H := by
  refine ⟨⟨_, Tryz.func40, by kernel_rfl, by kernel_rfl⟩, fun σ w us hu ha rel => ?_⟩
  obtain ⟨u0, rfl⟩ : ∃ u, us = #[u] := by
    obtain ⟨l⟩ := us
    match l, hu with
    | [u], _ => exact ⟨u, rfl⟩
  have h0 := ha 0 (by simp)
  simp only [List.getD_cons_zero] at h0
  have e0 : (#[u0] : Array Value).getD 0 undef = u0 := rfl
  rw [e0] at h0
  cases h0 with
  | @ptr _ _ _ l hρ =>
    obtain ⟨B, base, lim⟩ := l
    obtain rfl : base = 0 := rel.base0 _ _ _ hρ
    obtain ⟨C, fr, c1, c2, c3, c4, c5⟩ := rel.blk b _ _ hb rfl hρ
    obtain ⟨u, d1, d2⟩ := c5 0 (by simp)
    obtain ⟨uy, y1, y2⟩ := c5 1 (by simp)
    simp only [Nat.zero_add, Nat.add_zero, List.getD_cons_zero, List.getD_cons_succ, List.length_cons, List.length_nil] at *
    have hcell : w.cell? ⟨B, 0, none⟩ = some u := by simp only [World.cell?, c1]; exact d1
    have hC : 2 ≤ C.size := by omega
    cases d2 with
    | bad h =>
      rw [hρ] at h
      cases h
      refine (check_used B w hcell).mono ?_
      rintro e w' ⟨rfl, rfl⟩
      exact ⟨_, rfl, Res.same rel (.tup _ rfl (fun j hj => by simp at hj))⟩
    | bad0 =>
      refine (check_fresh B lim c3 w hcell (by simp [World.shape?, c1, c2]) (by
        simp only [World.frozen?, c1]
        rcases c4 with h | h
        · simp; omega
        · simp; omega)).mono ?_
      rintro e w' ⟨rfl, rfl⟩
      have hup := rel.upd hb rfl hρ (C := C.setIfInBounds 0 (.pointer (some ⟨B, 0, none⟩))) (fr := fr) (w' := w.setCell ⟨B, 0, none⟩ (.pointer (some ⟨B, 0, none⟩))) [.bad b v, y] (setCell_blk w B 0 _ C _ fr c1) (by simpa using c2) (by simpa using c3) c4 (fun j hj => by
        match j, hj with
        | 0, _ =>
          refine ⟨.pointer (some ⟨B, 0, none⟩), ?_, by simpa using AR.bad hρ⟩
          simp only [Nat.zero_add]
          rw [Array.getElem?_setIfInBounds_self_of_lt (by omega)]
        | 1, _ =>
          refine ⟨uy, ?_, by simpa using y2⟩
          simp only [Nat.zero_add]
          rw [Array.getElem?_setIfInBounds_ne (by omega)]
          exact y1) (fun B' hB => by
        simp only [World.setCell]
        rw [Array.getElem?_modify, if_neg (fun e => hB e.symm)]) (by simp [World.setCell]) rfl rfl rfl
      rw [set_same hb] at hup
      exact ⟨_, rfl, σ, .tup _ rfl (fun j hj => by simp at hj), hup.1, hup.2.1, fun h => by cases h⟩
theorem ne_bld {H : AHeap} {b v b1 v1 n : Nat} {acc : List Int} {e e1 : TypeId} (hb : H[b]? = some ⟨[.bad b v, .bsl b1 v1 n], v, true, e⟩) (h1 : H[b1]? = some ⟨ints .u8 acc, v1, true, e1⟩) : b ≠ b1 := by
  rintro rfl
  rw [hb] at h1
  cases acc with
  | nil => simp [ints] at h1
  | cons a l => simp [ints] at h1
theorem String_a {H : AHeap} {b v b1 v1 n : Nat} {acc : List Int} (hb : H[b]? = some ⟨[.bad b v, .bsl b1 v1 n], v, true, 51⟩) (h1 : H[b1]? = some ⟨ints .u8 acc, v1, true, 5⟩) (hn : n = acc.length) (hl : acc.length ≤ 9223372036854775807) (hu : ∀ x ∈ acc, 0 ≤ x ∧ x ≤ 255) :
    ACall Tryz.prog glob false 18 [.ptr b v 0] H (.v (.string (strOf acc))) (H.set b1 ⟨ints .u8 acc, v1, false, 5⟩) := by
  have hu8 : u8s (ints .u8 acc) := u8s_ints.2 hu
  refine lcallk18 (by simp) ?_
  unfold lc18
  refine I1 tt ⟨?_⟩
  repeat (first
    | (with_reducible refine lops_step fun K hK => ?_; simp (disch := first | exact dch | fail) only [go_sem, Nat.reduceAdd, Nat.reduceSub, reduceIte, Nat.reduceEqDiff, Int.reduceToNat, Int.reduceBEq, Int.reduceBNe, hb, h1, hn, aUsd, aUst, ints_length]; (repeat (with_reducible refine And.intro acl ?_)); (first | (refine hK _ _ ?_) | (refine ⟨_, rfl, hK _ _ ?_⟩) | (refine Or.inl (hK _ _ ?_)) | (refine ⟨_, _, Or.inl (check_a hb), (by first | exact ⟨[], (List.append_nil _).symm⟩ | exact ⟨_, rfl⟩), hK _ _ ?_⟩) | (refine ⟨_, _, Or.inl (check_a hb), hK _ _ ?_⟩) | (refine ⟨_, _, Or.inl (check_a hb).weakQ, hK _ _ ?_⟩)); clear hK K)
    | (with_reducible refine lops_nil ?_)
    | (with_reducible first | refine lavc_reg ?_ | refine lavc_seq ?_ | refine lavc_block ?_ | refine lavc_skip ?_ | refine lavc_exit ?_ | refine lavc_ret ?_ | refine lavcR_round ?_)
    | (simp only [↓reduceIte, Nat.reduceEqDiff, reduceCtorEq]))
  refine And.intro (by simp) ?_
  simp (disch := first | exact dch | fail) only [go_sem, Nat.reduceAdd, Nat.reduceSub, reduceIte, Nat.reduceEqDiff, Int.reduceToNat, Int.reduceBEq, Int.reduceBNe, aret, aretL, aret1, aenv]
  (repeat (with_reducible refine And.intro acl ?_))
end Go.Abs.S
namespace Go.Abs.S
open Go.Proofs
set_option maxRecDepth 100000
def impCodG : FuncId → Bool := fun f => f == 17 || f == 18 || f == 19 || f == 20 || f == 21 || f == 29 || f == 31 || f == 32 || f == 33 || f == 34 || f == 40 || f == 46 || f == 47 || f == 68
/-- escutcheon/page.quoted -/
def lc30 : LCode := .seq (.reg []
  [o1 2 (.assign (.const (.string { data := #[] })))]) (.seq (.reg []
  [o1 3 (.alloc 51)]) (.seq (.reg []
  [o1 6 (.call ⟨.value (.func 31), #[.tmp 3, .const (.int .u8 34)], #[51, 5]⟩)]) (.seq (.seq (.reg []
  [o1 7 (.move (.tmp 0)),
  o1 8 (.call ⟨.builtin .len, #[.tmp 7], #[9]⟩),
  o1 9 (.move (.const (.int .i64 0)))]) (.block 0 (.loop (.seq (.reg []
  [o1 10 (.binOp .lss 3 (.tmp 9) (.tmp 8) 3)]) (.seq (.cond (.tmp 10) (.skip) (.exit 0)) (.seq (.block 1 (.seq (.reg []
  [o1 11 (.move (.tmp 9)),
  o1 4 (.assign (.tmp 11))]) (.seq (.reg []
  [o1 12 (.move (.tmp 0)),
  o1 13 (.move (.tmp 4)),
  o1 14 (.index 9 (.tmp 12) (.tmp 13)),
  o1 5 (.assign (.tmp 14))]) (.block 2 (.seq (.reg []
  [o1 18 (.move (.tmp 5)),
  o1 19 (.binOp .eql 5 (.tmp 18) (.const (.int .u8 34)) 5),
  o1 20 (.move (.tmp 19)),
  o2 21 (.move (.tmp 5)) 20 false,
  o2 22 (.binOp .eql 5 (.tmp 21) (.const (.int .u8 92)) 5) 20 false,
  o1 23 (.pick (.tmp 20) (.const (.bool true)) (.tmp 22)),
  o1 17 (.assign (.tmp 23))]) (.cond (.tmp 17) (.seq (.reg []
  [o1 24 (.call ⟨.value (.func 31), #[.tmp 3, .const (.int .u8 92)], #[51, 5]⟩)]) (.reg []
  [o1 25 (.move (.tmp 5)),
  o1 26 (.call ⟨.value (.func 31), #[.tmp 3, .tmp 25], #[51, 5]⟩)])) (.seq (.reg []
  [o1 28 (.move (.tmp 5)),
  o1 29 (.binOp .lss 5 (.tmp 28) (.const (.int .u8 32)) 5),
  o1 27 (.assign (.tmp 29))]) (.cond (.tmp 27) (.reg []
  [o1 30 (.move (.tmp 5)),
  o1 31 (.buildSlice 49 1 #[(0, .tmp 30)]),
  o1 32 (.call ⟨.value (.func 41), #[.tmp 31], #[49]⟩),
  o1 33 (.binOp .add 9 (.const (.string { data := #[92, 117, 48, 48] })) (.tmp 32) 9),
  o1 34 (.call ⟨.value (.func 29), #[.tmp 3, .tmp 33], #[51, 9]⟩)]) (.reg []
  [o1 15 (.move (.tmp 5)),
  o1 16 (.call ⟨.value (.func 31), #[.tmp 3, .tmp 15], #[51, 5]⟩)]))))))))) (.reg []
  [o1 35 (.binOp .add 3 (.tmp 9) (.const (.int .i64 1)) 3),
  o1 9 (.move (.tmp 35))]))))))) (.seq (.reg []
  [o1 36 (.call ⟨.value (.func 31), #[.tmp 3, .const (.int .u8 34)], #[51, 5]⟩)]) (.seq (.reg []
  [o1 37 (.call ⟨.value (.func 18), #[.tmp 3], #[51]⟩),
  o1 2 (.assign (.tmp 37))]) (.ret))))))
def ms30_0 : List Nat := [1, 4, 5, 6, 7, 9, 10, 11, 12, 13, 14, 15, 16, 17, 18, 19, 20, 21, 22, 23, 24, 25, 26, 27, 28, 29, 30, 31, 32, 33, 34, 35, 36]
theorem ls30 : Tryz.f30.body.map (strip Tryz.prog impCodG) = some lc30 := by kernel_rfl
theorem lcall30 : LC 30 38 lc30 [.tmp 2] := LC.of Tryz.func30 (by kernel_rfl) ls30 (by kernel_rfl) (by kernel_rfl)
/-- escutcheon/coin.Hex -/
def lc41 : LCode := .seq (.reg []
  [o1 2 (.assign (.const (.string { data := #[] })))]) (.seq (.reg []
  [o1 3 (.load 96 (.global 1)),
  o1 4 (.move (.tmp 0)),
  o1 5 (.call ⟨.value (.func 60), #[.tmp 3, .tmp 4], #[96, 49]⟩),
  o1 2 (.assign (.tmp 5))]) (.ret))
theorem ls41 : Tryz.f41.body.map (strip Tryz.prog impCodG) = some lc41 := by kernel_rfl
theorem lcall41 : LC 41 6 lc41 [.tmp 2] := LC.of Tryz.func41 (by kernel_rfl) ls41 (by kernel_rfl) (by kernel_rfl)
/-- (escutcheon/coin.code).text -/
def lc60 : LCode := .seq (.reg []
  [o1 2 (.box 96 (.tmp 0)),
  o1 4 (.assign (.const (.string { data := #[] })))]) (.seq (.reg []
  [o1 5 (.alloc 51)]) (.seq (.reg []
  [o1 6 (.assign (.const (.int .i64 0))),
  o1 7 (.assign (.const (.int .i64 0)))]) (.seq (.seq (.reg []
  [o1 10 (.move (.tmp 1)),
  o1 11 (.call ⟨.builtin .len, #[.tmp 10], #[49]⟩),
  o1 12 (.move (.const (.int .i64 0)))]) (.block 0 (.loop (.seq (.reg []
  [o1 13 (.binOp .lss 3 (.tmp 12) (.tmp 11) 3)]) (.seq (.cond (.tmp 13) (.skip) (.exit 0)) (.seq (.block 1 (.seq (.reg []
  [o1 14 (.indexAddr 49 (.tmp 10) (.tmp 12)),
  o1 15 (.load 5 (.tmp 14)),
  o1 9 (.assign (.tmp 15))]) (.seq (.reg []
  [o1 16 (.move (.tmp 6)),
  o1 17 (.binOp .shl 3 (.tmp 16) (.const (.int .u64 8)) 109),
  o1 18 (.move (.tmp 9)),
  o1 19 (.convert 5 3 (.tmp 18)),
  o1 20 (.binOp .or 3 (.tmp 17) (.tmp 19) 3),
  o1 21 (.move (.tmp 7)),
  o1 22 (.binOp .add 3 (.tmp 21) (.const (.int .i64 8)) 3),
  o1 6 (.assign (.tmp 20)),
  o1 7 (.assign (.tmp 22))]) (.block 2 (.loop (.seq (.seq (.reg []
  [o1 23 (.move (.tmp 7)),
  o1 24 (.fieldAddr 96 (.tmp 2) 1),
  o1 25 (.load 3 (.tmp 24)),
  o1 26 (.binOp .geq 3 (.tmp 23) (.tmp 25) 3)]) (.cond (.tmp 26) (.skip) (.exit 2))) (.block 3 (.seq (.reg []
  [o1 27 (.move (.tmp 7)),
  o1 28 (.fieldAddr 96 (.tmp 2) 1),
  o1 29 (.load 3 (.tmp 28)),
  o1 30 (.binOp .sub 3 (.tmp 27) (.tmp 29) 3),
  o1 7 (.assign (.tmp 30))]) (.seq (.reg [o1 31 (.fieldAddr 96 (.tmp 2) 0),
  o1 32 (.load 9 (.tmp 31)),
  o1 33 (.move (.tmp 6)),
  o1 34 (.move (.tmp 7)),
  o1 35 (.binOp .shr 3 (.tmp 33) (.tmp 34) 3),
  o1 36 (.index 9 (.tmp 32) (.tmp 35))]
  [o1 37 (.call ⟨.value (.func 31), #[.tmp 5, .tmp 36], #[51, 5]⟩)]) (.reg []
  [o1 38 (.move (.tmp 6)),
  o1 39 (.move (.tmp 7)),
  o1 40 (.binOp .shl 3 (.const (.int .i64 1)) (.tmp 39) 3),
  o1 41 (.binOp .sub 3 (.tmp 40) (.const (.int .i64 1)) 3),
  o1 42 (.binOp .and 3 (.tmp 38) (.tmp 41) 3),
  o1 6 (.assign (.tmp 42))])))))))))) (.reg []
  [o1 43 (.binOp .add 3 (.tmp 12) (.const (.int .i64 1)) 3),
  o1 12 (.move (.tmp 43))]))))))) (.seq (.seq (.reg []
  [o1 44 (.move (.tmp 7)),
  o1 45 (.binOp .gtr 3 (.tmp 44) (.const (.int .i64 0)) 3)]) (.cond (.tmp 45) (.reg [o1 46 (.fieldAddr 96 (.tmp 2) 0),
  o1 47 (.load 9 (.tmp 46)),
  o1 48 (.move (.tmp 6)),
  o1 49 (.fieldAddr 96 (.tmp 2) 1),
  o1 50 (.load 3 (.tmp 49)),
  o1 51 (.move (.tmp 7)),
  o1 52 (.binOp .sub 3 (.tmp 50) (.tmp 51) 3),
  o1 53 (.binOp .shl 3 (.tmp 48) (.tmp 52) 3),
  o1 54 (.index 9 (.tmp 47) (.tmp 53))]
  [o1 55 (.call ⟨.value (.func 31), #[.tmp 5, .tmp 54], #[51, 5]⟩)]) (.skip))) (.seq (.reg []
  [o1 56 (.call ⟨.value (.func 18), #[.tmp 5], #[51]⟩),
  o1 4 (.assign (.tmp 56))]) (.ret))))))
def ms60_0 : List Nat := [0, 1, 3, 6, 7, 8, 9, 12, 13, 14, 15, 16, 17, 18, 19, 20, 21, 22, 23, 24, 25, 26, 27, 28, 29, 30, 31, 32, 33, 34, 35, 36, 37, 38, 39, 40, 41, 42, 43, 55]
def ms60_1 : List Nat := [0, 1, 3, 6, 7, 8, 23, 24, 25, 26, 27, 28, 29, 30, 31, 32, 33, 34, 35, 36, 37, 38, 39, 40, 41, 42, 55]
theorem ls60 : Tryz.f60.body.map (strip Tryz.prog impCodG) = some lc60 := by kernel_rfl
theorem lcall60 : LC 60 57 lc60 [.tmp 4] := LC.of Tryz.func60 (by kernel_rfl) ls60 (by kernel_rfl) (by kernel_rfl)
/-- (*strings.Builder).WriteByte -/
def lc31 : LCode := .seq (.reg []
  [o1 4 (.assign (.const .nilIface))]) (.seq (.reg []
  [o1 5 (.move (.tmp 0)),
  o1 6 (.call ⟨.value (.func 40), #[.tmp 5], #[48]⟩)]) (.seq (.reg []
  [o1 7 (.move (.tmp 0)),
  o1 8 (.move (.tmp 0)),
  o1 9 (.nilCheck (.tmp 8)),
  o1 10 (.fieldAddr 51 (.tmp 9) 1),
  o1 11 (.load 49 (.tmp 10)),
  o1 12 (.move (.tmp 1)),
  o1 13 (.buildSlice 49 1 #[(0, .tmp 12)]),
  o1 14 (.call ⟨.builtin .append, #[.tmp 11, .tmp 13], #[49, 49]⟩),
  o1 15 (.nilCheck (.tmp 7)),
  o1 16 (.fieldAddr 51 (.tmp 15) 1),
  o3 (.store 49 (.tmp 16) (.tmp 14))]) (.seq (.reg []
  [o1 4 (.assign (.const .nilIface))]) (.ret))))
theorem ls31 : Tryz.f31.body.map (strip Tryz.prog impCodG) = some lc31 := by kernel_rfl
theorem lcallk31 {args : List AV} (hargs : args.length ≤ 17) {H0 : AHeap} {r0 : AV} {H0' : AHeap}
    (h : lavc Tryz.prog glob lc31 (args ++ List.replicate (17 - args.length) (.v undef)) H0 fun e t H => (e = .normal ∨ e = .ret) ∧ aret Tryz.prog t H [Go.ResultVar.tmp 4] fun r => r = r0 ∧ H = H0') :
    ACall Tryz.prog glob false 31 args H0 r0 H0' := LCallK' ctx Tryz.func31 (by kernel_rfl) ls31 (by kernel_rfl) (by kernel_rfl) hargs h
end Go.Abs.S
namespace Go.Abs.S
attribute [local go_sem] lguard aopO aop aenv toAV tput aLoad aStore vcells aBin aNilI aUn aAlloc aBox aBuild aBSlice afill aConv isIntT aappZ aCap aArr aMM aMake aSlice bnd3 bnd aFldAddr aFld aIdxAddr aIdx aExt aLen aCopy aEq0 bAV aUb aapp aappQ agh acont List.getD_cons_zero List.getD_cons_succ List.set_cons_zero List.set_cons_succ List.getElem?_cons_zero List.getElem?_cons_succ List.length_cons List.length_nil List.map_cons List.map_nil ints_length if_true if_false Bool.false_eq_true true_and and_true eq_self ne_eq not_false_eq_true not_true_eq_false beq_self_eq_true Nat.zero_add Nat.add_zero Nat.mul_one Nat.zero_mul Int.toNat_natCast List.toList_toArray List.all_cons List.all_nil AV.one Value.oneCell' Bool.and_true Bool.true_and forall_const true_implies false_implies implies_true Option.map_some Option.map_none Option.isSome_some Option.isSome_none imp_self rdP_flat rdP_row splice_one ints_set ints_get List.append_nil List.cons_append List.nil_append List.getElem?_toArray List.drop_zero ints_drop ints_take List.take_of_length_le splice_all ints_one Option.some.injEq Option.getD_some List.length_replicate zArr List.map_replicate rep_ints splice_intsR List.length_set List.length_append List.flatten_replicate_singleton rep_slice rep_string rep_bool rep_iface List.replicate_zero if_pos if_neg List.mapM_cons List.mapM_nil Option.pure_def Option.bind_eq_bind Option.bind_some Bool.true_eq_false Bool.not_false Bool.not_true get_concat set_concat
open Go.Proofs
set_option linter.unusedVariables false
set_option linter.unusedSimpArgs false
set_option maxRecDepth 100000
set_option maxHeartbeats 2000000
theorem WriteByte_a {H : AHeap} {b v b1 v1 n : Nat} {acc : List Int} {c : Int} (hb : H[b]? = some ⟨[.bad b v, .bsl b1 v1 n], v, true, 51⟩) (h1 : H[b1]? = some ⟨ints .u8 acc, v1, true, 5⟩) (hn : n = acc.length) (hl : acc.length + 1 ≤ 140737488355328) :
    ACall Tryz.prog glob false 31 [.ptr b v 0, .v (.int .u8 c)] H (.v .nilIface) ((H.set b1 ⟨ints .u8 (acc ++ [c]), v1 + 1, true, 5⟩).set b ⟨[.bad b v, .bsl b1 (v1 + 1) (n + 1)], v, true, 51⟩) := by
  have hne := ne_bld hb h1
  refine lcallk31 (by simp) ?_
  unfold lc31
  refine I1 tt ⟨?_⟩
  repeat (first
    | (with_reducible refine lops_step fun K hK => ?_; simp (disch := first | exact dch | fail) only [go_sem, Nat.reduceAdd, Nat.reduceSub, reduceIte, Nat.reduceEqDiff, Int.reduceToNat, Int.reduceBEq, Int.reduceBNe, hb, h1, hn, List.getElem?_set_ne hne.symm]; (repeat (with_reducible refine And.intro acl ?_)); (first | (refine hK _ _ ?_) | (refine ⟨_, rfl, hK _ _ ?_⟩) | (refine Or.inr (hK _ _ ?_)) | (refine Or.inr ⟨rfl, hK _ _ ?_⟩) | (refine ⟨_, _, Or.inl (check_a hb), (by first | exact ⟨[], (List.append_nil _).symm⟩ | exact ⟨_, rfl⟩), hK _ _ ?_⟩) | (refine ⟨_, _, Or.inl (check_a hb), hK _ _ ?_⟩) | (refine ⟨_, _, Or.inl (check_a hb).weakQ, hK _ _ ?_⟩)); clear hK K)
    | (with_reducible refine lops_nil ?_)
    | (with_reducible first | refine lavc_reg ?_ | refine lavc_seq ?_ | refine lavc_block ?_ | refine lavc_skip ?_ | refine lavc_exit ?_ | refine lavc_ret ?_ | refine lavcR_round ?_)
    | (simp only [↓reduceIte, Nat.reduceEqDiff, reduceCtorEq]))
  refine R1 tt ⟨?_⟩
  have e : ((List.replicate 1 (0 : Int)).set 0 c) = [c] := rfl
  rw [e, ints_append, hn]
end Go.Abs.S
namespace Go.Abs.S
attribute [local go_sem] lguard aopO aop aenv toAV tput aLoad aStore vcells aBin aNilI aUn aAlloc aBox aBuild aBSlice afill aConv isIntT aappZ aCap aArr aMM aMake aSlice bnd3 bnd aFldAddr aFld aIdxAddr aIdx aExt aLen aCopy aEq0 bAV aUb aapp aappQ agh acont List.getD_cons_zero List.getD_cons_succ List.set_cons_zero List.set_cons_succ List.getElem?_cons_zero List.getElem?_cons_succ List.length_cons List.length_nil List.map_cons List.map_nil ints_length if_true if_false Bool.false_eq_true true_and and_true eq_self ne_eq not_false_eq_true not_true_eq_false beq_self_eq_true Nat.zero_add Nat.add_zero Nat.mul_one Nat.zero_mul Int.toNat_natCast List.toList_toArray List.all_cons List.all_nil AV.one Value.oneCell' Bool.and_true Bool.true_and forall_const true_implies false_implies implies_true Option.map_some Option.map_none Option.isSome_some Option.isSome_none imp_self rdP_flat rdP_row splice_one ints_set ints_get List.append_nil List.cons_append List.nil_append List.getElem?_toArray List.drop_zero ints_drop ints_take List.take_of_length_le splice_all ints_one Option.some.injEq Option.getD_some List.length_replicate zArr List.map_replicate rep_ints splice_intsR List.length_set List.length_append List.flatten_replicate_singleton rep_slice rep_string rep_bool rep_iface List.replicate_zero if_pos if_neg List.mapM_cons List.mapM_nil Option.pure_def Option.bind_eq_bind Option.bind_some Bool.true_eq_false Bool.not_false Bool.not_true get_concat set_concat
open Go.Proofs
set_option linter.unusedVariables false
set_option linter.unusedSimpArgs false
set_option maxRecDepth 100000
set_option maxHeartbeats 2000000
theorem WriteString_a {H : AHeap} {b v b1 v1 n : Nat} {acc : List Int} {s : ByteArray} (hb : H[b]? = some ⟨[.bad b v, .bsl b1 v1 n], v, true, 51⟩) (h1 : H[b1]? = some ⟨ints .u8 acc, v1, true, 5⟩) (hn : n = acc.length) (hl : acc.length + s.size ≤ 140737488355328) :
    ACall Tryz.prog glob false 29 [.ptr b v 0, .v (.string s)] H (.tup [.v (.int .i64 s.size), .v .nilIface]) ((H.set b1 ⟨ints .u8 (acc ++ bytesOf s), v1 + 1, true, 5⟩).set b ⟨[.bad b v, .bsl b1 (v1 + 1) (n + s.size)], v, true, 51⟩) := by
  have hne := ne_bld hb h1
  refine lcallk29 (by simp) ?_
  unfold lc29
  refine I1 tt ⟨?_⟩
  have em : List.map (fun b : UInt8 => AV.v (Value.int .u8 (b.toNat : Int))) s.data.toList = ints .u8 (bytesOf s) := by simp [ints, bytesOf]
  repeat (first
    | (with_reducible refine lops_step fun K hK => ?_; simp (disch := first | exact dch | fail) only [go_sem, Nat.reduceAdd, Nat.reduceSub, reduceIte, Nat.reduceEqDiff, Int.reduceToNat, Int.reduceBEq, Int.reduceBNe, hb, h1, hn, em, ints_one, List.getElem?_set_ne hne.symm]; (repeat (with_reducible refine And.intro acl ?_)); (first | (refine hK _ _ ?_) | (refine ⟨_, rfl, hK _ _ ?_⟩) | (refine Or.inr (hK _ _ ?_)) | (refine Or.inr ⟨rfl, hK _ _ ?_⟩) | (refine ⟨_, _, Or.inl (check_a hb), (by first | exact ⟨[], (List.append_nil _).symm⟩ | exact ⟨_, rfl⟩), hK _ _ ?_⟩) | (refine ⟨_, _, Or.inl (check_a hb), hK _ _ ?_⟩) | (refine ⟨_, _, Or.inl (check_a hb).weakQ, hK _ _ ?_⟩)); clear hK K)
    | (with_reducible refine lops_nil ?_)
    | (with_reducible first | refine lavc_reg ?_ | refine lavc_seq ?_ | refine lavc_block ?_ | refine lavc_skip ?_ | refine lavc_exit ?_ | refine lavc_ret ?_ | refine lavcR_round ?_)
    | (simp only [↓reduceIte, Nat.reduceEqDiff, reduceCtorEq]))
  refine R1 tt ⟨?_⟩
  rw [ints_append, hn]
end Go.Abs.S
namespace Go.Abs
set_option linter.unusedVariables false
set_option linter.unusedSimpArgs false
variable {P : Program} {G : Glob} {σ : Sig} {H : AHeap} {w : World}
/-- It speaks of no block from lo on. -/
def NL (lo : Nat) (c : AV) : Prop := ∀ (σ : Sig) (w : World) (u : Value), AR σ w c u → AR (rs σ lo) w c u
theorem NL.nr {lo : Nat} {c : AV} (h : NR c) : NL lo c := fun σ w u hu => h.to (σ := σ) (σ' := rs σ lo) (fun _ h => h) hu
theorem NL.bad {lo b v : Nat} (hb : b < lo) : NL lo (.bad b v) := fun σ w u hu => by
  cases hu with
  | bad h => exact .bad (rs_of hb h)
  | bad0 => exact .bad0
theorem NL.bsl {lo b v n : Nat} (hb : b < lo) : NL lo (.bsl b v n) := fun σ w u hu => by
  cases hu with
  | bsl0 => exact .bsl0
  | bsl h1 h2 h3 h4 => exact .bsl (rs_of hb h1) h2 h3 h4
theorem NL.to {lo : Nat} {c : AV} (h : NL lo c) {R : Nat → Prop} {u : Value} (hR : ∀ B, σ.ro B → R B) (hu : AR σ w c u) : AR ⟨(rs σ lo).ρ, R⟩ w c u :=
  AR.mono (σ := rs σ lo) (σ' := ⟨(rs σ lo).ρ, R⟩) (fun _ _ _ h => h) hR (fun _ _ => rfl) (h σ w u hu)
/-- What a body came to, cut down. -/
theorem Res.cutL (hG : GN G) {σ0 : Sig} {H0 : AHeap} {w0 : World} (r0 : Rel G σ0 H0 w0) (r : Rel G σ H w) (x : Ext σ0 H0 w0 σ H w) {lo : Nat} (hlo : H0.length ≤ lo) (hlo2 : lo ≤ H.length) {rv r' : AV} {u : Value} (hv : View lo H rv r') (hu : AR σ w rv u)
    (hn : ∀ b k, b < lo → H[b]? = some k → ∀ c ∈ k.cells, NL lo c) : Res G (H0.length == 0) σ0 H0 w0 r' (H.take lo) u w := by
  have hro : ∀ B, σ.ro B → (fun B => σ.ro B ∨ ImgFrom σ H lo B) B := fun B h => Or.inl h
  have hget : ∀ (b : Nat) (k : Blk), (H.take lo)[b]? = some k → b < lo ∧ H[b]? = some k := fun b k h => by
    rw [List.getElem?_take] at h
    split at h
    · exact ⟨by assumption, h⟩
    · cases h
  have himg : ∀ B, ImgFrom σ H lo B → w0.heap.size ≤ B ∨ Img σ0 H0 B := fun B ⟨b, k, l, h1, h2, h3, h4, h5⟩ => x.img ⟨b, k, l, h2, h3, h4, h5⟩
  refine ⟨⟨(rs σ lo).ρ, fun B => σ.ro B ∨ ImgFrom σ H lo B⟩, ?_, ⟨?_, ?_, ?_, ?_, ?_, ?_, fun b ver l h => r.base0 b ver l (rs_some h).2⟩, ⟨x.os, x.tape, x.output, x.size, ?_, fun B h => .inl (x.ro B h), x.frame, ?_, ?_, ?_, ?_⟩, fun h0 => ?_⟩
  · exact hv.ok r u hu
  · intro b k l h1 h2 h3
    obtain ⟨hb, h1⟩ := hget b k h1
    obtain ⟨C, fr, c1, c2, c3, c4, c5⟩ := r.blk b k l h1 h2 (rs_some h3).2
    refine ⟨C, fr, c1, c2, c3, c4, fun j hj => ?_⟩
    obtain ⟨v, e1, e2⟩ := c5 j hj
    exact ⟨v, e1, (hn b k hb h1 _ (by simp [List.getD_eq_getElem?_getD, hj])).to hro e2⟩
  · intro b1 b2 k1 k2 l1 l2 h1 h2 h3 g1 g2 g3
    exact r.inj b1 b2 k1 k2 l1 l2 (hget _ _ h1).2 h2 (rs_some h3).2 (hget _ _ g1).2 g2 (rs_some g3).2
  · intro b k l h1 h2 h3 h4
    obtain ⟨hb, h1⟩ := hget b k h1
    rcases h4 with h4 | ⟨b2, k2, l2, e1, e2, e3, e4, e5⟩
    · exact r.apart b k l h1 h2 (rs_some h3).2 h4
    · have := r.inj b2 b k2 k l2 l e2 e3 e4 h1 h2 (rs_some h3).2 e5
      omega
  · intro B hB
    rcases hB with hB | ⟨b2, k2, l2, e1, e2, e3, e4, e5⟩
    · exact r.roLt B hB
    · rw [← e5]
      exact r.lt e2 e3 e4
  · intro b ver l h
    obtain ⟨hb, h⟩ := rs_some h
    obtain ⟨k, h1, h2⟩ := r.fresh b ver l h
    exact ⟨k, by rw [List.getElem?_take, if_pos hb]; exact h1, h2⟩
  · intro g
    exact (hG g).to hro (r.glob g)
  · intro b ver l h
    obtain ⟨k, hk, _⟩ := r0.fresh b ver l h
    exact rs_of (Nat.lt_of_lt_of_le (List.getElem?_eq_some_iff.1 hk).1 hlo) (x.ρ b ver l h)
  · intro b ver l h
    exact x.new b ver l (rs_some h).2
  · intro b k' l h1 h2 h3
    exact x.stay b k' l (hget b k' h1).2 h2 h3
  · intro B hB
    rcases hB with hB | hB
    · exact x.roNew B hB
    · exact .inr (himg B hB)
  · rw [List.length_take]
    omega
  · have hnil : H0 = [] := List.eq_nil_of_length_eq_zero (by simpa using h0)
    subst hnil
    refine ⟨fun B hB => .same (x.frame B hB fun ⟨b, k, l, h1, _⟩ => by simp at h1), fun b ver l h => .inr (Nat.zero_le _)⟩
/-- What a body ends with when blocks that stay speak of one another. -/
def FinL (lo : Nat) (H : AHeap) (r r0 : AV) (H0' : AHeap) : Prop := View lo H r r0 ∧ lo ≤ H.length ∧ (∀ b k, b < lo → H[b]? = some k → ∀ c ∈ k.cells, NL lo c) ∧ H.take lo = H0'
theorem LCallL (ctx : Ctx P G) {imp : FuncId → Bool} {n : FuncId} {fn : Func} {c : Code} {lc : LCode} {rs : List ResultVar} {nt : Nat} (hf : P.funcs[n]? = some fn) (hname : (fn.name == "runtime.NumGoroutine") = false) (hb : fn.body = some c) (hl : strip P imp c = lc) (hr : fn.results.toList = rs) (hnt : fn.ntmps = nt)
    {args : List AV} (hargs : args.length ≤ nt) {H0 : AHeap} (h0 : 0 < H0.length) (lo : Nat) (hlo : H0.length ≤ lo) {r0 : AV} {H0' : AHeap}
    (h : lavc P G lc (args ++ List.replicate (nt - args.length) (.v undef)) H0 fun e t H => (e = .normal ∨ e = .ret) ∧ aret P t H rs fun r => FinL lo H r r0 H0') :
    ACall P G false n args H0 r0 H0' := by
  have hz : (H0.length == 0) = false := by rw [beq_eq_false_iff_ne]; omega
  rw [← hz]
  subst hl hr hnt
  refine ⟨⟨fn, hf, hname, by rw [hb]; rfl⟩, fun σ w us hu ha rel => calls_of_wp hf hb ?_⟩
  have s : Sim G σ (args ++ List.replicate (fn.ntmps - args.length) (.v undef)) H0 { tmps := us ++ Array.replicate (fn.ntmps - us.size) undef, defers := [] } w := by
    refine ⟨rfl, by simp [hu], fun j hj => ?_, rel⟩
    simp only [List.length_append, List.length_replicate] at hj
    by_cases hja : j < args.length
    · have := ha j hja
      simpa [List.getD_eq_getElem?_getD, List.getElem?_append, Array.getElem?_append, hja, hu] using this
    · have e1 : (args ++ List.replicate (fn.ntmps - args.length) (AV.v undef)).getD j .any = .v undef := by
        rw [List.getD_eq_getElem?_getD, List.getElem?_append_right (by omega), List.getElem?_replicate, if_pos (by omega)]
        rfl
      have e2 : (us ++ Array.replicate (fn.ntmps - us.size) undef).getD j undef = undef := by
        rw [Array.getD_eq_getD_getElem?, Array.getElem?_append, if_neg (by omega), Array.getElem?_replicate, if_pos (by omega)]
        rfl
      rw [e1, e2]
      exact .v _
  refine Code.wp_mono (fun e a w' hq => ?_) (lavc_ok ctx.mix c _ H0 _ h σ H0 w σ _ w s (Ext.refl _ _ _))
  obtain ⟨t, H, σ', ⟨he, hr⟩, s', x⟩ := hq
  obtain ⟨r, u, ⟨hv, hl2, hn, rfl⟩, hrun, hru⟩ := aret_ok s' hr
  have hres := Res.cutL ctx.nr rel s'.rel x hlo hl2 hv hru hn
  rcases he with rfl | rfl <;> exact ⟨s'.defers, u, hrun, u, rfl, hres⟩
theorem LCallL' (ctx : Ctx P G) {imp : FuncId → Bool} {n : FuncId} {fn : Func} {lc : LCode} {rs : List ResultVar} {nt : Nat} (hf : P.funcs[n]? = some fn) (hname : (fn.name == "runtime.NumGoroutine") = false) (hl : fn.body.map (strip P imp) = some lc) (hr : fn.results.toList = rs) (hnt : fn.ntmps = nt)
    {args : List AV} (hargs : args.length ≤ nt) {H0 : AHeap} (h0 : 0 < H0.length) (lo : Nat) (hlo : H0.length ≤ lo) {r0 : AV} {H0' : AHeap}
    (h : lavc P G lc (args ++ List.replicate (nt - args.length) (.v undef)) H0 fun e t H => (e = .normal ∨ e = .ret) ∧ aret P t H rs fun r => FinL lo H r r0 H0') :
    ACall P G false n args H0 r0 H0' := by
  obtain ⟨c, hb, hl⟩ := Option.map_eq_some_iff.1 hl
  exact LCallL ctx hf hname hb hl hr hnt hargs h0 lo hlo h
end Go.Abs
namespace Go.Abs.S
open Go.Proofs
set_option linter.unusedVariables false
set_option linter.unusedSimpArgs false
set_option maxRecDepth 100000
set_option maxHeartbeats 4000000
/-- Memory in which a builder holds a row. -/
def BH (H : AHeap) (b b1 v v1 : Nat) (acc : List Int) : AHeap := (H.set b1 ⟨ints .u8 acc, v1, true, 5⟩).set b ⟨[.bad b v, .bsl b1 v1 acc.length], v, true, 51⟩
structure BOk (H : AHeap) (b b1 : Nat) : Prop where
  hb : b < H.length
  h1 : b1 < H.length
  ne : b ≠ b1
theorem BOk.app {H : AHeap} {b b1 : Nat} (ok : BOk H b b1) (X : AHeap) : BOk (H ++ X) b b1 := ⟨by rw [List.length_append]; have := ok.hb; omega, by rw [List.length_append]; have := ok.h1; omega, ok.ne⟩
theorem BH_len (H : AHeap) (b b1 v v1 : Nat) (acc : List Int) : (BH H b b1 v v1 acc).length = H.length := by simp [BH]
theorem BH_b {H : AHeap} {b b1 : Nat} (ok : BOk H b b1) (v v1 : Nat) (acc : List Int) : (BH H b b1 v v1 acc)[b]? = some ⟨[.bad b v, .bsl b1 v1 acc.length], v, true, 51⟩ := by
  unfold BH
  rw [List.getElem?_set_self (by simpa using ok.hb)]
theorem BH_1 {H : AHeap} {b b1 : Nat} (ok : BOk H b b1) (v v1 : Nat) (acc : List Int) : (BH H b b1 v v1 acc)[b1]? = some ⟨ints .u8 acc, v1, true, 5⟩ := by
  unfold BH
  rw [List.getElem?_set_ne ok.ne, List.getElem?_set_self ok.h1]
theorem BH_set {H : AHeap} {b b1 : Nat} (ok : BOk H b b1) (v v1 : Nat) (acc : List Int) (X Y : Blk) : ((BH H b b1 v v1 acc).set b1 X).set b Y = (H.set b1 X).set b Y := by
  unfold BH
  rw [List.set_comm _ _ ok.ne, List.set_set, List.set_set]
theorem BH_app {H : AHeap} {b b1 : Nat} (ok : BOk H b b1) (v v1 : Nat) (acc : List Int) (X : AHeap) : BH H b b1 v v1 acc ++ X = BH (H ++ X) b b1 v v1 acc := by
  unfold BH
  rw [List.set_append_left _ _ ok.h1, List.set_append_left _ _ (by simpa using ok.hb)]
theorem BH_get {H : AHeap} {b b1 : Nat} (v v1 : Nat) (acc : List Int) (i : Nat) (h : i ≠ b) (h1 : i ≠ b1) : (BH H b b1 v v1 acc)[i]? = H[i]? := by
  unfold BH
  rw [List.getElem?_set_ne h.symm, List.getElem?_set_ne h1.symm]
theorem BH_take {H X : AHeap} {b b1 : Nat} (ok : BOk H b b1) (v v1 : Nat) (acc : List Int) : (BH (H ++ X) b b1 v v1 acc).take H.length = BH H b b1 v v1 acc := by
  rw [← BH_app ok, List.take_append_of_le_length (by rw [BH_len]; exact Nat.le_refl _), List.take_of_length_le (by rw [BH_len]; exact Nat.le_refl _)]
theorem WriteString_b {H : AHeap} {b b1 v v1 : Nat} {acc : List Int} {s : ByteArray} (ok : BOk H b b1) (hl : acc.length + s.size ≤ 140737488355328) :
    ACall Tryz.prog glob false 29 [.ptr b v 0, .v (.string s)] (BH H b b1 v v1 acc) (.tup [.v (.int .i64 s.size), .v .nilIface]) (BH H b b1 v (v1 + 1) (acc ++ bytesOf s)) := by
  have h := WriteString_a (s := s) (BH_b ok v v1 acc) (BH_1 ok v v1 acc) rfl hl
  rw [BH_set ok] at h
  have e : (acc ++ bytesOf s).length = acc.length + s.size := by rw [List.length_append, bytes_length]
  unfold BH at h ⊢
  rw [e]
  exact h
theorem WriteByte_b {H : AHeap} {b b1 v v1 : Nat} {acc : List Int} {c : Int} (ok : BOk H b b1) (hl : acc.length + 1 ≤ 140737488355328) :
    ACall Tryz.prog glob false 31 [.ptr b v 0, .v (.int .u8 c)] (BH H b b1 v v1 acc) (.v .nilIface) (BH H b b1 v (v1 + 1) (acc ++ [c])) := by
  have h := WriteByte_a (c := c) (BH_b ok v v1 acc) (BH_1 ok v v1 acc) rfl hl
  rw [BH_set ok] at h
  have e : (acc ++ [c]).length = acc.length + 1 := by simp
  unfold BH at h ⊢
  rw [e]
  exact h
abbrev stA (s : ByteArray) : AV := .v (.string s)
abbrev nlA : AV := .v (.slice none 0 0)
abbrev ivC (n : Int) : AV := .v (.int .i64 n)
theorem NR.strs (N : List ByteArray) : ∀ x ∈ strs N, NR x := fun x hx => by
  simp only [Go.Abs.strs, List.mem_map] at hx
  obtain ⟨n, _, rfl⟩ := hx
  exact NR.v _
end Go.Abs.S
namespace Go.Abs.S
attribute [local go_sem] lguard aopO aop aenv toAV tput aLoad aStore vcells aBin aNilI aUn aAlloc aBox aBuild aBSlice afill aConv isIntT aappZ aCap aArr aMM aMake aSlice bnd3 bnd aFldAddr aFld aIdxAddr aIdx aExt aLen aCopy aEq0 bAV aUb aapp aappQ agh acont List.getD_cons_zero List.getD_cons_succ List.set_cons_zero List.set_cons_succ List.getElem?_cons_zero List.getElem?_cons_succ List.length_cons List.length_nil List.map_cons List.map_nil ints_length if_true if_false Bool.false_eq_true true_and and_true eq_self ne_eq not_false_eq_true not_true_eq_false beq_self_eq_true Nat.zero_add Nat.add_zero Nat.mul_one Nat.zero_mul Int.toNat_natCast List.toList_toArray List.all_cons List.all_nil AV.one Value.oneCell' Bool.and_true Bool.true_and forall_const true_implies false_implies implies_true Option.map_some Option.map_none Option.isSome_some Option.isSome_none imp_self rdP_flat rdP_row splice_one ints_set ints_get List.append_nil List.cons_append List.nil_append List.getElem?_toArray List.drop_zero ints_drop ints_take List.take_of_length_le splice_all ints_one Option.some.injEq Option.getD_some List.length_replicate zArr List.map_replicate rep_ints splice_intsR List.length_set List.length_append List.flatten_replicate_singleton rep_slice rep_string rep_bool rep_iface List.replicate_zero if_pos if_neg List.mapM_cons List.mapM_nil Option.pure_def Option.bind_eq_bind Option.bind_some Bool.true_eq_false Bool.not_false Bool.not_true get_concat set_concat
open Go.Proofs
set_option linter.unusedVariables false
set_option linter.unusedSimpArgs false
set_option maxRecDepth 100000
set_option maxHeartbeats 4000000
theorem strs_at (l : List ByteArray) (k : Nat) (h : k < l.length) : (strs l).getD k .any = stA (l.getD k ⟨#[]⟩) := by
  simp [strs, List.getD_eq_getElem?_getD, h]
theorem stA_beq (a b : ByteArray) : (a.toList == b.toList) = decide (a = b) := by
  rw [Bool.eq_iff_iff, beq_iff_eq, decide_eq_true_eq]
  refine ⟨fun h => ?_, fun h => by rw [h]⟩
  rw [ByteArray.toList_eq, ByteArray.toList_eq] at h
  cases a; cases b
  congr 1
  exact Array.toList_inj.1 h
/-- The place of a text in a row. -/
def idxK : List ByteArray → ByteArray → Nat → Int
  | [], _, _ => -1
  | a :: l, x, k => if x = a then (k : Int) else idxK l x (k + 1)
theorem idxK_step (l : List ByteArray) (x : ByteArray) (k : Nat) (h : k < l.length) : idxK (l.drop k) x k = if x = l.getD k ⟨#[]⟩ then (k : Int) else idxK (l.drop (k + 1)) x (k + 1) := by
  rw [List.drop_eq_getElem_cons h, idxK, List.getD_eq_getElem?_getD, List.getElem?_eq_getElem h]
  rfl
theorem index_p (l : List ByteArray) (c : Option Nat) (x : ByteArray) (hl : l.length ≤ 1000) : PCall Tryz.prog glob 72 [.vsl l.length (strs l) c, stA x] (ivC (idxK l x 0)) := by
  refine PCall.of ctx.nr (List.forall_mem_cons.2 ⟨NR.vsl (NR.strs _), List.forall_mem_cons.2 ⟨NR.v _, fun _ h => absurd h List.not_mem_nil⟩⟩) (NR.v _) ?_
  refine lcall72 (by simp) 0 (Nat.le_refl _) ?_
  unfold lc72
  refine I1 tt ⟨?_⟩
  have hs := strs_length l
  obtain ⟨V, hV⟩ : ∃ V, idxK l x 0 = V := ⟨_, rfl⟩
  rw [hV]
  refine G1 F4 tt tt tt tt ⟨?_⟩
  refine lavc_loopM ms72_0 (fun m (k : Nat) => m + k = l.length ∧ idxK (l.drop k) x k = V) (fun k => [(8, ivC k)]) (fun _ => []) l.length 0 ⟨by omega, by rw [List.drop_zero]; exact hV⟩ ?_ rfl ?_
  · try unfold ms72_0
    refine A1 tt ⟨?_⟩
    rfl
  rintro m k ⟨hk, hi⟩
  try unfold ms72_0
  refine M1 tt ⟨?_⟩
  refine G1 F1 tt tt tt tt ⟨?_⟩
  refine cnd rfl (fun hc => ?_) (fun hc => ?_)
  · have hkl : k < l.length := by omega
    have hat := strs_at l k hkl
    rw [idxK_step l x k hkl] at hi
    have e3 := i64n ((k : Int) + 1) (k + 1) (by omega) (by omega)
    obtain ⟨y, hy⟩ : ∃ y, l.getD k ⟨#[]⟩ = y := ⟨_, rfl⟩
    rw [hy] at hat hi
    by_cases hx : x = y
    · rw [if_pos hx] at hi
      have q : (x.toList == y.toList) = true := by rw [stA_beq]; exact decide_eq_true hx
      refine G1 F4 (an hat (an q tt)) tt tt tt ⟨?_⟩
      refine R1 tt ⟨?_⟩
      exact end0 (NR.v _) (by rw [← hi])
    · rw [if_neg hx] at hi
      have q : (x.toList == y.toList) = false := by rw [stA_beq]; exact decide_eq_false hx
      refine G1 F4 (an hat (an q (an e3 tt))) tt tt tt ⟨?_⟩
      refine ⟨m - 1, k + 1, by omega, ⟨by omega, hi⟩, ?_, (by first | rfl | trivial)⟩
      try unfold ms72_0
      exact A0 tt
  · have hk2 : k = l.length := by omega
    rw [hk2, List.drop_length] at hi
    refine G1 F4 tt tt tt tt ⟨?_⟩
    refine R1 tt ⟨?_⟩
    exact end0 (NR.v _) (by rw [← hi]; rfl)
theorem contains_p (l : List ByteArray) (c : Option Nat) (x : ByteArray) (hl : l.length ≤ 1000) : PCall Tryz.prog glob 58 [.vsl l.length (strs l) c, stA x] (.v (.bool (decide (0 ≤ idxK l x 0)))) := by
  refine PCall.of ctx.nr (List.forall_mem_cons.2 ⟨NR.vsl (NR.strs _), List.forall_mem_cons.2 ⟨NR.v _, fun _ h => absurd h List.not_mem_nil⟩⟩) (NR.v _) ?_
  refine lcall58 (by simp) 0 (Nat.le_refl _) ?_
  unfold lc58
  refine I1 tt ⟨?_⟩
  have ip := index_p l c x hl
  refine G1 F4 tt (an ip.go tt) tt tt ⟨?_⟩
  refine R1 tt ⟨?_⟩
  exact end0 (NR.v _) rfl
/-- Does a text stand twice? -/
def twiceK (l : List ByteArray) (k : Nat) : Bool := (List.range l.length).any fun i => decide (k ≤ i) && decide (0 ≤ idxK (l.take i) (l.getD i ⟨#[]⟩) 0)
def twiceP (l : List ByteArray) : Bool := twiceK l 0
theorem twiceK_step (l : List ByteArray) (k : Nat) (h : k < l.length) : twiceK l k = (decide (0 ≤ idxK (l.take k) (l.getD k ⟨#[]⟩) 0) || twiceK l (k + 1)) := by
  unfold twiceK
  rw [Bool.eq_iff_iff]
  simp only [List.any_eq_true, List.mem_range, Bool.and_eq_true, decide_eq_true_eq, Bool.or_eq_true]
  constructor
  · rintro ⟨i, h1, h2, h3⟩
    by_cases e : i = k
    · subst e
      exact .inl h3
    · exact .inr ⟨i, h1, by omega, h3⟩
  · rintro (h1 | ⟨i, h1, h2, h3⟩)
    · exact ⟨k, h, Nat.le_refl _, h1⟩
    · exact ⟨i, h1, by omega, h3⟩
theorem twiceK_end (l : List ByteArray) : twiceK l l.length = false := by
  unfold twiceK
  rw [List.any_eq_false]
  intro i hi
  rw [List.mem_range] at hi
  simp
  omega
theorem twice_p (l : List ByteArray) (c : Option Nat) (hl : l.length ≤ 1000) : PCall Tryz.prog glob 39 [.vsl l.length (strs l) c] (.v (.bool (twiceP l))) := by
  refine PCall.of ctx.nr (List.forall_mem_cons.2 ⟨NR.vsl (NR.strs _), fun _ h => absurd h List.not_mem_nil⟩) (NR.v _) ?_
  refine lcall39 (by simp) 0 (Nat.le_refl _) ?_
  unfold lc39
  refine I1 tt ⟨?_⟩
  have hs := strs_length l
  obtain ⟨V, hV⟩ : ∃ V, twiceP l = V := ⟨_, rfl⟩
  rw [hV]
  refine G1 F4 tt tt tt tt ⟨?_⟩
  refine lavc_loopM ms39_0 (fun m (k : Nat) => m + k = l.length ∧ twiceK l k = V) (fun k => [(7, ivC k)]) (fun _ => []) l.length 0 ⟨by omega, hV⟩ ?_ rfl ?_
  · try unfold ms39_0
    refine A1 tt ⟨?_⟩
    rfl
  rintro m k ⟨hk, hi⟩
  try unfold ms39_0
  refine M1 tt ⟨?_⟩
  refine G1 F1 tt tt tt tt ⟨?_⟩
  refine cnd rfl (fun hc => ?_) (fun hc => ?_)
  · have hkl : k < l.length := by omega
    have hat := strs_at l k hkl
    rw [twiceK_step l k hkl] at hi
    have e3 := i64n ((k : Int) + 1) (k + 1) (by omega) (by omega)
    obtain ⟨y, hy⟩ : ∃ y, l.getD k ⟨#[]⟩ = y := ⟨_, rfl⟩
    rw [hy] at hat hi
    have htk : List.take k (strs l) = strs (l.take k) := by simp [strs, List.map_take]
    have hln : (l.take k).length = k := by rw [List.length_take]; omega
    have cp := fun c => contains_p (l.take k) c y (by omega)
    rw [hln] at cp
    obtain ⟨w, hw⟩ : ∃ w, decide (0 ≤ idxK (l.take k) y 0) = w := ⟨_, rfl⟩
    rw [hw] at cp hi
    cases w with
    | true =>
      repeat (first
        | (with_reducible refine lops_step fun K hK => ?_; simp (disch := first | exact dch | fail) only [go_sem, Nat.reduceAdd, Nat.reduceSub, reduceIte, Nat.reduceEqDiff, Int.reduceToNat, Int.reduceBEq, Int.reduceBNe, hat, htk, Nat.mul_one, Nat.sub_zero]; (try (first | (refine And.intro (fun _ => ?_) (fun h => absurd h (by decide))) | (refine And.intro (fun h => absurd h (by decide)) (fun _ => ?_)))); (repeat (with_reducible refine And.intro acl ?_)); (first | (refine hK _ _ ?_) | (refine ⟨_, rfl, hK _ _ ?_⟩) | (refine Or.inl (hK _ _ ?_)) | (refine ⟨_, _, Or.inl ((cp _).go _), (by first | exact ⟨[], (List.append_nil _).symm⟩ | exact ⟨_, rfl⟩), hK _ _ ?_⟩) | (refine ⟨_, _, Or.inl ((cp _).go _), hK _ _ ?_⟩) | (refine ⟨_, _, Or.inl ((cp _).go _).weakQ, hK _ _ ?_⟩)); clear hK K)
        | (with_reducible refine lops_nil ?_)
        | (with_reducible first | refine lavc_reg ?_ | refine lavc_seq ?_ | refine lavc_block ?_ | refine lavc_skip ?_ | refine lavc_exit ?_ | refine lavc_ret ?_ | refine lavcR_round ?_)
        | (refine lavc_cond rfl (fun _ => ?_) (fun hc => absurd hc (by decide)))
        | (refine lavc_cond rfl (fun hc => absurd hc (by decide)) (fun _ => ?_))
        | (simp only [↓reduceIte, Nat.reduceEqDiff, reduceCtorEq]))
      refine R1 tt ⟨?_⟩
      exact end0 (NR.v _) (by rw [← hi]; rfl)
    | false =>
      rw [Bool.false_or] at hi
      repeat (first
        | (with_reducible refine lops_step fun K hK => ?_; simp (disch := first | exact dch | fail) only [go_sem, Nat.reduceAdd, Nat.reduceSub, reduceIte, Nat.reduceEqDiff, Int.reduceToNat, Int.reduceBEq, Int.reduceBNe, hat, htk, Nat.mul_one, Nat.sub_zero, e3]; (try (first | (refine And.intro (fun _ => ?_) (fun h => absurd h (by decide))) | (refine And.intro (fun h => absurd h (by decide)) (fun _ => ?_)))); (repeat (with_reducible refine And.intro acl ?_)); (first | (refine hK _ _ ?_) | (refine ⟨_, rfl, hK _ _ ?_⟩) | (refine Or.inl (hK _ _ ?_)) | (refine ⟨_, _, Or.inl ((cp _).go _), (by first | exact ⟨[], (List.append_nil _).symm⟩ | exact ⟨_, rfl⟩), hK _ _ ?_⟩) | (refine ⟨_, _, Or.inl ((cp _).go _), hK _ _ ?_⟩) | (refine ⟨_, _, Or.inl ((cp _).go _).weakQ, hK _ _ ?_⟩)); clear hK K)
        | (with_reducible refine lops_nil ?_)
        | (with_reducible first | refine lavc_reg ?_ | refine lavc_seq ?_ | refine lavc_block ?_ | refine lavc_skip ?_ | refine lavc_exit ?_ | refine lavc_ret ?_ | refine lavcR_round ?_)
        | (refine lavc_cond rfl (fun _ => ?_) (fun hc => absurd hc (by decide)))
        | (refine lavc_cond rfl (fun hc => absurd hc (by decide)) (fun _ => ?_))
        | (simp only [↓reduceIte, Nat.reduceEqDiff, reduceCtorEq]))
      refine ⟨m - 1, k + 1, by omega, ⟨by omega, hi⟩, ?_, (by first | rfl | trivial)⟩
      try unfold ms39_0
      exact A0 tt
  · have hk2 : k = l.length := by omega
    rw [hk2, twiceK_end] at hi
    refine G1 F4 tt tt tt tt ⟨?_⟩
    refine R1 tt ⟨?_⟩
    exact end0 (NR.v _) (by rw [← hi])
theorem notv_p (s : ByteArray) (h : s.size ≤ 9223372036854775807) : PCall Tryz.prog glob 57 [stA s] (.v (.bool (!validP s))) := by
  refine PCall.of ctx.nr nrs (NR.v _) ?_
  refine lcall57 (by simp) 0 (Nat.le_refl _) ?_
  unfold lc57
  refine I1 tt ⟨?_⟩
  have vp := valid_p s h
  refine G1 F4 tt (an vp.go tt) tt tt ⟨?_⟩
  refine R1 tt ⟨?_⟩
  exact end0 (NR.v _) rfl
/-- The place of the first text that is not UTF-8. -/
def ifK : List ByteArray → Nat → Int
  | [], _ => -1
  | a :: l, k => if validP a then ifK l (k + 1) else (k : Int)
theorem ifK_step (l : List ByteArray) (k : Nat) (h : k < l.length) : ifK (l.drop k) k = if validP (l.getD k ⟨#[]⟩) then ifK (l.drop (k + 1)) (k + 1) else (k : Int) := by
  rw [List.drop_eq_getElem_cons h, ifK, List.getD_eq_getElem?_getD, List.getElem?_eq_getElem h]
  rfl
theorem ifK_all : ∀ (l : List ByteArray) (k : Nat), decide (0 ≤ ifK l k) = !(l.all validP)
  | [], k => rfl
  | a :: l, k => by
    rw [ifK, List.all_cons]
    cases hv : validP a with
    | true =>
      rw [if_pos rfl, ifK_all l (k + 1), Bool.true_and]
    | false =>
      rw [if_neg (by decide), Bool.false_and]
      simp
theorem fnA_nr : NR (.fn (.func 57) []) := fun σ w u h => by
  cases h with
  | fn us hl ha => exact .fn us hl (fun j hj => absurd hj (Nat.not_lt_zero _))
theorem ixf_p (l : List ByteArray) (c : Option Nat) (hl : l.length ≤ 1000) (hz : ∀ s ∈ l, s.size ≤ 9223372036854775807) : PCall Tryz.prog glob 71 [.vsl l.length (strs l) c, .fn (.func 57) []] (ivC (ifK l 0)) := by
  refine PCall.of ctx.nr (List.forall_mem_cons.2 ⟨NR.vsl (NR.strs _), List.forall_mem_cons.2 ⟨fnA_nr, fun _ h => absurd h List.not_mem_nil⟩⟩) (NR.v _) ?_
  refine lcall71 (by simp) 0 (Nat.le_refl _) ?_
  unfold lc71
  refine I1 tt ⟨?_⟩
  have hs := strs_length l
  obtain ⟨V, hV⟩ : ∃ V, ifK l 0 = V := ⟨_, rfl⟩
  rw [hV]
  refine G1 F4 tt tt tt tt ⟨?_⟩
  refine lavc_loopM ms71_0 (fun m (k : Nat) => m + k = l.length ∧ ifK (l.drop k) k = V) (fun k => [(8, ivC k)]) (fun _ => []) l.length 0 ⟨by omega, by rw [List.drop_zero]; exact hV⟩ ?_ rfl ?_
  · try unfold ms71_0
    refine A1 tt ⟨?_⟩
    rfl
  rintro m k ⟨hk, hi⟩
  try unfold ms71_0
  refine M1 tt ⟨?_⟩
  refine G1 F1 tt tt tt tt ⟨?_⟩
  refine cnd rfl (fun hc => ?_) (fun hc => ?_)
  · have hkl : k < l.length := by omega
    have hat := strs_at l k hkl
    rw [ifK_step l k hkl] at hi
    have e3 := i64n ((k : Int) + 1) (k + 1) (by omega) (by omega)
    have hys : (l.getD k ⟨#[]⟩).size ≤ 9223372036854775807 := by
      rw [List.getD_eq_getElem?_getD, List.getElem?_eq_getElem hkl]
      exact hz _ (List.getElem_mem hkl)
    obtain ⟨y, hy⟩ : ∃ y, l.getD k ⟨#[]⟩ = y := ⟨_, rfl⟩
    rw [hy] at hat hi hys
    have np := notv_p y hys
    cases hv : validP y with
    | true =>
      rw [hv] at hi np
      rw [if_pos rfl] at hi
      have np : PCall Tryz.prog glob 57 [stA y] (.v (.bool false)) := np
      refine G1 F4 (an hat (an e3 tt)) (an np.go tt) tt tt ⟨?_⟩
      refine ⟨m - 1, k + 1, by omega, ⟨by omega, hi⟩, ?_, (by first | rfl | trivial)⟩
      try unfold ms71_0
      exact A0 tt
    | false =>
      rw [hv] at hi np
      rw [if_neg (by decide)] at hi
      have np : PCall Tryz.prog glob 57 [stA y] (.v (.bool true)) := np
      refine G1 F4 (an hat (an e3 tt)) (an np.go tt) tt tt ⟨?_⟩
      refine R1 tt ⟨?_⟩
      exact end0 (NR.v _) (by rw [← hi])
  · have hk2 : k = l.length := by omega
    rw [hk2, List.drop_length] at hi
    refine G1 F4 tt tt tt tt ⟨?_⟩
    refine R1 tt ⟨?_⟩
    exact end0 (NR.v _) (by rw [← hi]; rfl)
theorem ctf_p (l : List ByteArray) (c : Option Nat) (hl : l.length ≤ 1000) (hz : ∀ s ∈ l, s.size ≤ 9223372036854775807) : PCall Tryz.prog glob 56 [.vsl l.length (strs l) c, .fn (.func 57) []] (.v (.bool (!(l.all validP)))) := by
  refine PCall.of ctx.nr (List.forall_mem_cons.2 ⟨NR.vsl (NR.strs _), List.forall_mem_cons.2 ⟨fnA_nr, fun _ h => absurd h List.not_mem_nil⟩⟩) (NR.v _) ?_
  refine lcall56 (by simp) 0 (Nat.le_refl _) ?_
  unfold lc56
  refine I1 tt ⟨?_⟩
  have ip := ixf_p l c hl hz
  rw [← ifK_all l 0]
  refine G1 F4 tt (an ip.go tt) tt tt ⟨?_⟩
  refine R1 tt ⟨?_⟩
  exact end0 (NR.v _) rfl
end Go.Abs.S
namespace Go.Abs.S
open Go.Proofs
set_option linter.unusedVariables false
set_option linter.unusedSimpArgs false
set_option maxRecDepth 100000
set_option maxHeartbeats 4000000
abbrev vA (v : Val) : AV := .agg v.cells
theorem NR.vA (v : Val) : NR (vA v) := NR.agg v.nr
/-- Texts and rows that the walks bear. -/
def small1 : Val → Prop
  | .mk k t ns vs => t.size ≤ 9223372036854775807 ∧ ns.length ≤ 1000 ∧ (∀ s ∈ ns, s.size ≤ 9223372036854775807) ∧ vs.length ≤ 1000
mutual
def small : Val → Prop
  | .mk k t ns vs => small1 (.mk k t ns vs) ∧ smallL vs
def smallL : List Val → Prop
  | [] => True
  | v :: l => small v ∧ smallL l
end
theorem smallL_iff : ∀ {l : List Val}, smallL l ↔ ∀ v ∈ l, small v
  | [] => ⟨fun _ _ h => absurd h List.not_mem_nil, fun _ => trivial⟩
  | v :: l => by rw [smallL, List.forall_mem_cons, smallL_iff]
theorem small.at {k : Int} {t : ByteArray} {ns : List ByteArray} {vs : List Val} (h : small (.mk k t ns vs)) : small1 (.mk k t ns vs) ∧ ∀ v ∈ vs, small v := by
  rw [small, smallL_iff] at h
  exact h
/-- Whether a value itself may be. -/
def formV : Val → Bool
  | .mk k t ns vs =>
    if k = 0 ∨ k = 1 ∨ k = 2 then decide (t.size = 0) && decide (ns.length = 0) && decide (vs.length = 0)
    else if k = 3 then decide (ns.length = 0) && decide (vs.length = 0) && !decide (t.size = 0) && decide (t.size ≤ 40) && decide (nuL (bl t) = t.size)
    else if k = 4 then decide (ns.length = 0) && decide (vs.length = 0) && validP t
    else if k = 5 then decide (t.size = 0) && decide (ns.length = 0)
    else if k = 6 then decide (t.size = 0) && decide (ns.length = vs.length) && ns.all validP
    else false
mutual
/-- What is wrong with a value at a depth. -/
def goodV : Val → Int → Int
  | .mk k t ns vs, d => if 8 < d then 9 else if formV (.mk k t ns vs) = false then 2 else if 64 < vs.length then 11 else if twiceP ns = true then 10 else goodL vs (d + 1)
def goodL : List Val → Int → Int
  | [], _ => 0
  | v :: l, d => if goodV v d = 0 then goodL l d else goodV v d
end
theorem goodL_step (l : List Val) (k : Nat) (h : k < l.length) (d : Int) : goodL (l.drop k) d = if goodV (l.getD k default) d = 0 then goodL (l.drop (k + 1)) d else goodV (l.getD k default) d := by
  rw [List.drop_eq_getElem_cons h, goodL, List.getD_eq_getElem?_getD, List.getElem?_eq_getElem h]
  rfl
theorem getD_mem (l : List Val) (k : Nat) (h : k < l.length) : l.getD k default ∈ l := by
  rw [List.getD_eq_getElem?_getD, List.getElem?_eq_getElem h]
  exact List.getElem_mem h
end Go.Abs.S
namespace Go.Abs.S
attribute [local go_sem] lguard aopO aop aenv toAV tput aLoad aStore vcells aBin aNilI aUn aAlloc aBox aBuild aBSlice afill aConv isIntT aappZ aCap aArr aMM aMake aSlice bnd3 bnd aFldAddr aFld aIdxAddr aIdx aExt aLen aCopy aEq0 bAV aUb aapp aappQ agh acont List.getD_cons_zero List.getD_cons_succ List.set_cons_zero List.set_cons_succ List.getElem?_cons_zero List.getElem?_cons_succ List.length_cons List.length_nil List.map_cons List.map_nil ints_length if_true if_false Bool.false_eq_true true_and and_true eq_self ne_eq not_false_eq_true not_true_eq_false beq_self_eq_true Nat.zero_add Nat.add_zero Nat.mul_one Nat.zero_mul Int.toNat_natCast List.toList_toArray List.all_cons List.all_nil AV.one Value.oneCell' Bool.and_true Bool.true_and forall_const true_implies false_implies implies_true Option.map_some Option.map_none Option.isSome_some Option.isSome_none imp_self rdP_flat rdP_row splice_one ints_set ints_get List.append_nil List.cons_append List.nil_append List.getElem?_toArray List.drop_zero ints_drop ints_take List.take_of_length_le splice_all ints_one Option.some.injEq Option.getD_some List.length_replicate zArr List.map_replicate rep_ints splice_intsR List.length_set List.length_append List.flatten_replicate_singleton rep_slice rep_string rep_bool rep_iface List.replicate_zero if_pos if_neg List.mapM_cons List.mapM_nil Option.pure_def Option.bind_eq_bind Option.bind_some Bool.true_eq_false Bool.not_false Bool.not_true get_concat set_concat
open Go.Proofs
set_option linter.unusedVariables false
set_option linter.unusedSimpArgs false
set_option maxRecDepth 100000
set_option maxHeartbeats 8000000
abbrev dg16 : ByteArray := ⟨#[48, 49, 50, 51, 52, 53, 54, 55, 56, 57, 97, 98, 99, 100, 101, 102]⟩
theorem hex_facts : ∀ c : Nat, c < 32 → ibits .or .i64 (shlI .i64 0 8) (c : Int) = (c : Int) ∧ shrI .i64 (c : Int) 4 = ((c / 16 : Nat) : Int) ∧ ibits .and .i64 (c : Int) 15 = ((c % 16 : Nat) : Int) ∧ shrI .i64 ((c % 16 : Nat) : Int) 0 = ((c % 16 : Nat) : Int) ∧ ibits .and .i64 ((c % 16 : Nat) : Int) 0 = 0 ∧ (dg16.data.toList.getD (c / 16) 0) = hx (c / 16) ∧ (dg16.data.toList.getD (c % 16) 0) = hx (c % 16) := by decide +kernel
theorem str_two (x y : UInt8) : strOf [(x.toNat : Int), (y.toNat : Int)] = bs [x, y] := by simp [strOf, bs]
theorem u8_two (x y : UInt8) : ∀ z ∈ [(x.toNat : Int), (y.toNat : Int)], 0 ≤ z ∧ z ≤ 255 := by
  intro z hz
  have h1 := x.toNat_lt
  have h2 := y.toNat_lt
  simp only [List.mem_cons, List.not_mem_nil, or_false] at hz
  rcases hz with rfl | rfl <;> omega
theorem text_hex (c : Nat) (hc : c < 32) (cx : Option Nat) (hcx : NR (.vsl 1 (ints .u8 [(c : Int)]) cx)) : PCall Tryz.prog glob 60 [.agg [.v (.string dg16), .v (.int .i64 4)], .vsl 1 (ints .u8 [(c : Int)]) cx] (.v (.string (bs [hx (c / 16), hx (c % 16)]))) := by
  refine PCall.of ctx.nr (List.forall_mem_cons.2 ⟨NR.agg nrs, List.forall_mem_cons.2 ⟨hcx, fun _ h => absurd h List.not_mem_nil⟩⟩) (NR.v _) ?_
  refine lcall60 (by simp) 0 (Nat.le_refl _) ?_
  unfold lc60
  refine I1 tt ⟨?_⟩
  obtain ⟨o1, s1, n1, s2, n2, b1, b2⟩ := hex_facts c hc
  obtain ⟨a, ha⟩ : ∃ a, c / 16 = a := ⟨_, rfl⟩
  obtain ⟨b, hb⟩ : ∃ a, c % 16 = a := ⟨_, rfl⟩
  have ha2 : a < 2 := by omega
  have hb2 : b < 16 := by omega
  rw [ha] at s1 b1 ⊢
  rw [hb] at n1 s2 n2 b2 ⊢
  have g1 : (((dg16.data.toList.getD a 0).toNat : Nat) : Int) = ((hx a).toNat : Int) := by rw [b1]
  have g2 : (((dg16.data.toList.getD b 0).toNat : Nat) : Int) = ((hx b).toNat : Int) := by rw [b2]
  have hz : dg16.size = 16 := rfl
  obtain ⟨dg, hdg⟩ : ∃ d, dg16 = d := ⟨_, rfl⟩
  rw [hdg] at g1 g2 hz ⊢
  have w0 := i64n (c : Int) c rfl (by omega)
  have w8 : IntKind.i64.wrap (0 + 8) = 8 := by decide
  have w4 : IntKind.i64.wrap (8 - 4) = 4 := by decide
  have w2 : IntKind.i64.wrap (4 - 4) = 0 := by decide
  have k15 : IntKind.i64.wrap (shlI .i64 1 4 - 1) = 15 := by decide
  have k0 : IntKind.i64.wrap (shlI .i64 1 0 - 1) = 0 := by decide
  have i1 : IntKind.i64.wrap (0 + 1) = 1 := by decide
  refine G1 F1 tt tt tt tt ⟨?_⟩
  refine lavc_bld 1 5 rfl rfl ?_
  refine lavc_rounds 2 ?_
  repeat (first
    | (with_reducible refine lops_step fun K hK => ?_; simp (disch := first | exact dch | fail) only [go_sem, Nat.reduceAdd, Nat.reduceSub, reduceIte, Nat.reduceEqDiff, Int.reduceToNat, Int.reduceBEq, Int.reduceBNe, o1, s1, n1, s2, n2, g1, g2, hz, w0, w8, w4, w2, k15, k0, i1]; (try (first | (refine And.intro (fun _ => ?_) (fun h => absurd h (by decide))) | (refine And.intro (fun h => absurd h (by decide)) (fun _ => ?_)))); (repeat (with_reducible refine And.intro acl ?_)); (first | (refine hK _ _ ?_) | (refine ⟨_, rfl, hK _ _ ?_⟩) | (refine Or.inl (hK _ _ ?_))); clear hK K)
    | (with_reducible refine lops_nil ?_)
    | (with_reducible first | refine lavc_reg ?_ | refine lavc_seq ?_ | refine lavc_block ?_ | refine lavc_skip ?_ | refine lavc_exit ?_ | refine lavc_ret ?_ | refine lavcR_round ?_)
    | (refine lavc_cond rfl (fun _ => ?_) (fun hc => absurd hc (by decide)))
    | (refine lavc_cond rfl (fun hc => absurd hc (by decide)) (fun _ => ?_))
    | (simp only [↓reduceIte, Nat.reduceEqDiff, reduceCtorEq]))
  refine lavc_rounds 3 ?_
  repeat (first
    | (with_reducible refine lops_step fun K hK => ?_; simp (disch := first | exact dch | fail) only [go_sem, Nat.reduceAdd, Nat.reduceSub, reduceIte, Nat.reduceEqDiff, Int.reduceToNat, Int.reduceBEq, Int.reduceBNe, o1, s1, n1, s2, n2, g1, g2, hz, w0, w8, w4, w2, k15, k0, i1]; (try (first | (refine And.intro (fun _ => ?_) (fun h => absurd h (by decide))) | (refine And.intro (fun h => absurd h (by decide)) (fun _ => ?_)))); (repeat (with_reducible refine And.intro acl ?_)); (first | (refine hK _ _ ?_) | (refine ⟨_, rfl, hK _ _ ?_⟩) | (refine Or.inl (hK _ _ ?_)) | (refine ⟨_, _, Or.inl ((WriteByte_a (b := 1) (b1 := 2) rfl rfl rfl (by simp))), (by first | exact ⟨[], (List.append_nil _).symm⟩ | exact ⟨_, rfl⟩), hK _ _ ?_⟩) | (refine ⟨_, _, Or.inl ((WriteByte_a (b := 1) (b1 := 2) rfl rfl rfl (by simp))), hK _ _ ?_⟩) | (refine ⟨_, _, Or.inl ((WriteByte_a (b := 1) (b1 := 2) rfl rfl rfl (by simp))).weakQ, hK _ _ ?_⟩) | (refine ⟨_, _, Or.inl ((String_a (b := 1) (b1 := 2) rfl rfl rfl (by simp) (u8_two (hx a) (hx b)))), (by first | exact ⟨[], (List.append_nil _).symm⟩ | exact ⟨_, rfl⟩), hK _ _ ?_⟩) | (refine ⟨_, _, Or.inl ((String_a (b := 1) (b1 := 2) rfl rfl rfl (by simp) (u8_two (hx a) (hx b)))), hK _ _ ?_⟩) | (refine ⟨_, _, Or.inl ((String_a (b := 1) (b1 := 2) rfl rfl rfl (by simp) (u8_two (hx a) (hx b)))).weakQ, hK _ _ ?_⟩)); clear hK K)
    | (with_reducible refine lops_nil ?_)
    | (with_reducible first | refine lavc_reg ?_ | refine lavc_seq ?_ | refine lavc_block ?_ | refine lavc_skip ?_ | refine lavc_exit ?_ | refine lavc_ret ?_ | refine lavcR_round ?_)
    | (refine lavc_cond rfl (fun _ => ?_) (fun hc => absurd hc (by decide)))
    | (refine lavc_cond rfl (fun hc => absurd hc (by decide)) (fun _ => ?_))
    | (simp only [↓reduceIte, Nat.reduceEqDiff, reduceCtorEq]))
  refine R1 tt ⟨?_⟩
  exact end0 (NR.v _) (by rw [str_two])
theorem hex_p (c : Nat) (hc : c < 32) (cx : Option Nat) (hcx : NR (.vsl 1 (ints .u8 [(c : Int)]) cx)) : PCall Tryz.prog glob 41 [.vsl 1 (ints .u8 [(c : Int)]) cx] (.v (.string (bs [hx (c / 16), hx (c % 16)]))) := by
  refine PCall.of ctx.nr (List.forall_mem_cons.2 ⟨hcx, fun _ h => absurd h List.not_mem_nil⟩) (NR.v _) ?_
  refine lcall41 (by simp) 0 (Nat.le_refl _) ?_
  have tp := text_hex c hc cx hcx
  unfold lc41
  refine I1 tt ⟨?_⟩
  repeat (first
    | (with_reducible refine lops_step fun K hK => ?_; simp (disch := first | exact dch | fail) only [go_sem, Nat.reduceAdd, Nat.reduceSub, reduceIte, Nat.reduceEqDiff, Int.reduceToNat, Int.reduceBEq, Int.reduceBNe, glob, av_escutcheon_coin_hexa]; (repeat (with_reducible refine And.intro acl ?_)); (first | (refine hK _ _ ?_) | (refine ⟨_, rfl, hK _ _ ?_⟩) | (refine Or.inl (hK _ _ ?_)) | (refine ⟨_, _, Or.inl (tp.go _), (by first | exact ⟨[], (List.append_nil _).symm⟩ | exact ⟨_, rfl⟩), hK _ _ ?_⟩) | (refine ⟨_, _, Or.inl (tp.go _), hK _ _ ?_⟩) | (refine ⟨_, _, Or.inl (tp.go _).weakQ, hK _ _ ?_⟩)); clear hK K)
    | (with_reducible refine lops_nil ?_)
    | (with_reducible first | refine lavc_reg ?_ | refine lavc_seq ?_ | refine lavc_block ?_ | refine lavc_skip ?_ | refine lavc_exit ?_ | refine lavc_ret ?_ | refine lavcR_round ?_)
    | (simp only [↓reduceIte, Nat.reduceEqDiff, reduceCtorEq]))
  refine R1 tt ⟨?_⟩
  exact end0 (NR.v _) rfl
theorem bytes_bs (l : List UInt8) : bytesOf (bs l) = l.map fun c => (c.toNat : Int) := rfl
theorem bytes_add (l : List UInt8) (c : UInt8) : bytesOf (bs l) ++ [(c.toNat : Int)] = bytesOf (bs (l ++ [c])) := by
  rw [bytes_bs, bytes_bs, List.map_append]
  rfl
theorem bz_app (l m : List UInt8) : bytesOf (bs l) ++ bytesOf (bs m) = bytesOf (bs (l ++ m)) := by
  rw [bytes_bs, bytes_bs, bytes_bs, List.map_append]
theorem bz_len (l : List UInt8) : (bytesOf (bs l)).length = l.length := by
  rw [bytes_bs, List.length_map]
theorem strOf_bs (l : List UInt8) : strOf (bytesOf (bs l)) = bs l := str_bytes _
theorem quoB_take (l : List UInt8) (k : Nat) (h : k < l.length) : quoB (l.take (k + 1)) = quoB (l.take k) ++ esc1 (l.getD k 0) := by
  rw [List.take_add_one, quoB_append, List.getD_eq_getElem?_getD, List.getElem?_eq_getElem h]
  congr 1
  exact List.append_nil _
theorem quoted_p (l : List UInt8) (hl : l.length ≤ 1000000000) : PCall Tryz.prog glob 30 [.v (.string (bs l))] (.v (.string (bs (quoL l)))) := by
  refine PCall.of ctx.nr nrs (NR.v _) ?_
  refine lcall30 (by simp) 0 (Nat.le_refl _) ?_
  unfold lc30
  refine I1 tt ⟨?_⟩
  obtain ⟨V, hV⟩ : ∃ V, quoL l = V := ⟨_, rfl⟩
  have hV2 : V = 34 :: quoB (l.take l.length) ++ [34] := by rw [List.take_length, ← hV]; rfl
  rw [hV]
  refine lavc_seq (lavc_reg ?_)
  refine G1 F6 tt tt tt tt ⟨?_⟩
  refine lavc_seq (lavc_reg ?_)
  refine G1 F6 tt tt tt tt ⟨?_⟩
  refine lavc_bld 0 5 rfl rfl ?_
  repeat (first
    | (with_reducible refine lops_step fun K hK => ?_; simp (disch := first | exact dch | fail) only [go_sem, Nat.reduceAdd, Nat.reduceSub, reduceIte, Nat.reduceEqDiff, Int.reduceToNat, Int.reduceBEq, Int.reduceBNe]; (try (first | (refine And.intro (fun _ => ?_) (fun h => absurd h (by decide))) | (refine And.intro (fun h => absurd h (by decide)) (fun _ => ?_)))); (repeat (with_reducible refine And.intro acl ?_)); (first | (refine hK _ _ ?_) | (refine ⟨_, rfl, hK _ _ ?_⟩) | (refine Or.inl (hK _ _ ?_)) | (refine ⟨_, _, Or.inl ((WriteByte_a (b := 0) (b1 := 1) rfl rfl rfl (by simp))), (by first | exact ⟨[], (List.append_nil _).symm⟩ | exact ⟨_, rfl⟩), hK _ _ ?_⟩) | (refine ⟨_, _, Or.inl ((WriteByte_a (b := 0) (b1 := 1) rfl rfl rfl (by simp))), hK _ _ ?_⟩) | (refine ⟨_, _, Or.inl ((WriteByte_a (b := 0) (b1 := 1) rfl rfl rfl (by simp))).weakQ, hK _ _ ?_⟩)); clear hK K)
    | (with_reducible refine lops_nil ?_)
    | (with_reducible first | refine lavc_reg ?_ | refine lavc_seq ?_ | refine lavc_block ?_ | refine lavc_skip ?_ | refine lavc_exit ?_ | refine lavc_ret ?_ | refine lavcR_round ?_)
    | (refine lavc_cond rfl (fun _ => ?_) (fun hc => absurd hc (by decide)))
    | (refine lavc_cond rfl (fun hc => absurd hc (by decide)) (fun _ => ?_))
    | (simp only [↓reduceIte, Nat.reduceEqDiff, reduceCtorEq]))
  refine lavc_loopM ms30_0 (fun m (x : Nat × Nat × List UInt8 × AHeap) => m + x.1 = l.length ∧ x.2.2.1 = 34 :: quoB (l.take x.1)) (fun x => [(9, ivC x.1)])
    (fun x => ⟨[.bad 0 0, .bsl 1 x.2.1 x.2.2.1.length], 0, true, 51⟩ :: ⟨ints .u8 (bytesOf (bs x.2.2.1)), x.2.1, true, 5⟩ :: x.2.2.2) l.length (0, 1, [34], []) ⟨by show l.length + 0 = _; omega, rfl⟩ ?_ rfl ?_
  · refine ALe.mk ?_
    simp only [ms30_0, putAll, blank, List.foldl_cons, List.foldl_nil, List.set_cons_succ, List.set_cons_zero, List.cons_append, List.nil_append, ALe0, true_or, or_true, and_true, true_and, eq_self, reduceCtorEq, false_or]
    try rfl
  rintro m ⟨k, v, acc, gg⟩ ⟨hk, hi⟩
  simp only at hk hi ⊢
  try unfold ms30_0
  refine M1 tt ⟨?_⟩
  have hql := (quoB_len (l.take k)).2
  rw [List.length_take] at hql
  have hacc : acc.length ≤ 6 * l.length + 1 := by
    rw [hi, List.length_cons]
    omega
  have hal := bz_len acc
  refine G1 F1 tt tt tt tt ⟨?_⟩
  refine cnd rfl (fun hc => ?_) (fun hc => ?_)
  · have hkl : k < l.length := by omega
    have e3 := i64n ((k : Int) + 1) (k + 1) (by omega) (by omega)
    have hst := quoB_take l k hkl
    obtain ⟨c, hc⟩ : ∃ c, l.getD k 0 = c := ⟨_, rfl⟩
    rw [hc] at hst
    have b1 := bytes_add acc c
    have b0 : bytesOf (bs acc) ++ [92] = bytesOf (bs (acc ++ [92])) := bytes_add acc 92
    have b2 := bytes_add (acc ++ [92]) c
    have l1 : (acc ++ [c]).length = acc.length + 1 := by simp
    have l0 : (acc ++ [92]).length = acc.length + 1 := by simp
    have l2 : (acc ++ [92] ++ [c]).length = acc.length + 1 + 1 := by simp
    have hn1 : ∀ A : List UInt8, A = acc ++ esc1 c → A = 34 :: quoB (l.take (k + 1)) := fun A h => by rw [h, hi, hst]; rfl
    by_cases k1 : c.toNat = 34 ∨ c.toNat = 92
    · have he : esc1 c = [92, c] := by unfold esc1; rw [if_pos k1]
      have fin := hn1 (acc ++ [92] ++ [c]) (by rw [he, List.append_assoc]; rfl)
      rcases k1 with k1 | k1
      · have q1 : ((c.toNat : Int) == 34) = true := by rw [k1]; rfl
        repeat (first
          | (with_reducible refine lops_step fun K hK => ?_; simp (disch := first | exact dch | fail) only [go_sem, Nat.reduceAdd, Nat.reduceSub, reduceIte, Nat.reduceEqDiff, Int.reduceToNat, Int.reduceBEq, Int.reduceBNe, hc, q1, e3, b0, b2, hal]; (try (first | (refine And.intro (fun _ => ?_) (fun h => absurd h (by decide))) | (refine And.intro (fun h => absurd h (by decide)) (fun _ => ?_)))); (repeat (with_reducible refine And.intro acl ?_)); (first | (refine hK _ _ ?_) | (refine ⟨_, rfl, hK _ _ ?_⟩) | (refine Or.inl (hK _ _ ?_)) | (refine ⟨_, _, Or.inl ((WriteByte_a (b := 0) (b1 := 1) rfl rfl hal.symm (by omega))), (by first | exact ⟨[], (List.append_nil _).symm⟩ | exact ⟨_, rfl⟩), hK _ _ ?_⟩) | (refine ⟨_, _, Or.inl ((WriteByte_a (b := 0) (b1 := 1) rfl rfl hal.symm (by omega))), hK _ _ ?_⟩) | (refine ⟨_, _, Or.inl ((WriteByte_a (b := 0) (b1 := 1) rfl rfl hal.symm (by omega))).weakQ, hK _ _ ?_⟩) | (refine ⟨_, _, Or.inl ((WriteByte_a (b := 0) (b1 := 1) rfl rfl (by rw [bz_len, l0]) (by rw [bz_len, l0]; omega))), (by first | exact ⟨[], (List.append_nil _).symm⟩ | exact ⟨_, rfl⟩), hK _ _ ?_⟩) | (refine ⟨_, _, Or.inl ((WriteByte_a (b := 0) (b1 := 1) rfl rfl (by rw [bz_len, l0]) (by rw [bz_len, l0]; omega))), hK _ _ ?_⟩) | (refine ⟨_, _, Or.inl ((WriteByte_a (b := 0) (b1 := 1) rfl rfl (by rw [bz_len, l0]) (by rw [bz_len, l0]; omega))).weakQ, hK _ _ ?_⟩)); clear hK K)
          | (with_reducible refine lops_nil ?_)
          | (with_reducible first | refine lavc_reg ?_ | refine lavc_seq ?_ | refine lavc_block ?_ | refine lavc_skip ?_ | refine lavc_exit ?_ | refine lavc_ret ?_ | refine lavcR_round ?_)
          | (refine lavc_cond rfl (fun _ => ?_) (fun hc => absurd hc (by decide)))
          | (refine lavc_cond rfl (fun hc => absurd hc (by decide)) (fun _ => ?_))
          | (simp only [↓reduceIte, Nat.reduceEqDiff, reduceCtorEq]))
        refine ⟨m - 1, (k + 1, v + 1 + 1, acc ++ [92] ++ [c], gg), by omega, ⟨by show m - 1 + (k + 1) = l.length; omega, fin⟩, ?_, ?_⟩
        · try unfold ms30_0
          exact A0 tt
        · show _ = _ :: _ :: gg
          rw [l2]
          try rfl
      · have q0 : (((c.toNat : Int) : Int) == 34) = false := by rw [beq_eq_false_iff_ne, ne_eq]; omega
        have q1 : ((c.toNat : Int) == 92) = true := by rw [k1]; rfl
        repeat (first
          | (with_reducible refine lops_step fun K hK => ?_; simp (disch := first | exact dch | fail) only [go_sem, Nat.reduceAdd, Nat.reduceSub, reduceIte, Nat.reduceEqDiff, Int.reduceToNat, Int.reduceBEq, Int.reduceBNe, hc, q0, q1, e3, b0, b2, hal]; (try (first | (refine And.intro (fun _ => ?_) (fun h => absurd h (by decide))) | (refine And.intro (fun h => absurd h (by decide)) (fun _ => ?_)))); (repeat (with_reducible refine And.intro acl ?_)); (first | (refine hK _ _ ?_) | (refine ⟨_, rfl, hK _ _ ?_⟩) | (refine Or.inl (hK _ _ ?_)) | (refine ⟨_, _, Or.inl ((WriteByte_a (b := 0) (b1 := 1) rfl rfl hal.symm (by omega))), (by first | exact ⟨[], (List.append_nil _).symm⟩ | exact ⟨_, rfl⟩), hK _ _ ?_⟩) | (refine ⟨_, _, Or.inl ((WriteByte_a (b := 0) (b1 := 1) rfl rfl hal.symm (by omega))), hK _ _ ?_⟩) | (refine ⟨_, _, Or.inl ((WriteByte_a (b := 0) (b1 := 1) rfl rfl hal.symm (by omega))).weakQ, hK _ _ ?_⟩) | (refine ⟨_, _, Or.inl ((WriteByte_a (b := 0) (b1 := 1) rfl rfl (by rw [bz_len, l0]) (by rw [bz_len, l0]; omega))), (by first | exact ⟨[], (List.append_nil _).symm⟩ | exact ⟨_, rfl⟩), hK _ _ ?_⟩) | (refine ⟨_, _, Or.inl ((WriteByte_a (b := 0) (b1 := 1) rfl rfl (by rw [bz_len, l0]) (by rw [bz_len, l0]; omega))), hK _ _ ?_⟩) | (refine ⟨_, _, Or.inl ((WriteByte_a (b := 0) (b1 := 1) rfl rfl (by rw [bz_len, l0]) (by rw [bz_len, l0]; omega))).weakQ, hK _ _ ?_⟩)); clear hK K)
          | (with_reducible refine lops_nil ?_)
          | (with_reducible first | refine lavc_reg ?_ | refine lavc_seq ?_ | refine lavc_block ?_ | refine lavc_skip ?_ | refine lavc_exit ?_ | refine lavc_ret ?_ | refine lavcR_round ?_)
          | (refine lavc_cond rfl (fun _ => ?_) (fun hc => absurd hc (by decide)))
          | (refine lavc_cond rfl (fun hc => absurd hc (by decide)) (fun _ => ?_))
          | (simp only [↓reduceIte, Nat.reduceEqDiff, reduceCtorEq]))
        refine ⟨m - 1, (k + 1, v + 1 + 1, acc ++ [92] ++ [c], gg), by omega, ⟨by show m - 1 + (k + 1) = l.length; omega, fin⟩, ?_, ?_⟩
        · try unfold ms30_0
          exact A0 tt
        · show _ = _ :: _ :: gg
          rw [l2]
          try rfl
    have q0 : (((c.toNat : Int) : Int) == 34) = false := by rw [beq_eq_false_iff_ne, ne_eq]; omega
    have q1 : (((c.toNat : Int) : Int) == 92) = false := by rw [beq_eq_false_iff_ne, ne_eq]; omega
    by_cases k2 : c.toNat < 32
    · have q2 : decide ((c.toNat : Int) < 32) = true := by rw [decide_eq_true_eq]; omega
      have he : esc1 c = [92, 117, 48, 48, hx (c.toNat / 16), hx (c.toNat % 16)] := by unfold esc1; rw [if_neg k1, if_pos k2]
      have fin := hn1 _ (congrArg (acc ++ ·) he.symm)
      have hp := fun cx hcx => hex_p c.toNat k2 cx hcx
      have e1 : (List.replicate 1 (0 : Int)).set 0 (c.toNat : Int) = [(c.toNat : Int)] := rfl
      have s1 : (⟨#[92, 117, 48, 48]⟩ : ByteArray) ++ bs [hx (c.toNat / 16), hx (c.toNat % 16)] = bs [92, 117, 48, 48, hx (c.toNat / 16), hx (c.toNat % 16)] := bs_append [92, 117, 48, 48] _
      have b3 := bz_app acc [92, 117, 48, 48, hx (c.toNat / 16), hx (c.toNat % 16)]
      have l3 : (acc ++ [92, 117, 48, 48, hx (c.toNat / 16), hx (c.toNat % 16)]).length = acc.length + 6 := by simp
      have hw : (bytesOf (bs acc)).length + (bs [92, 117, 48, 48, hx (c.toNat / 16), hx (c.toNat % 16)]).size ≤ 140737488355328 := by
        rw [hal, bs_size]
        show acc.length + 6 ≤ _
        omega
      repeat (first
        | (with_reducible refine lops_step fun K hK => ?_; simp (disch := first | exact dch | fail) only [go_sem, Nat.reduceAdd, Nat.reduceSub, reduceIte, Nat.reduceEqDiff, Int.reduceToNat, Int.reduceBEq, Int.reduceBNe, hc, q0, q1, q2, e1, e3, s1, b3]; (try (first | (refine And.intro (fun _ => ?_) (fun h => absurd h (by decide))) | (refine And.intro (fun h => absurd h (by decide)) (fun _ => ?_)))); (repeat (with_reducible refine And.intro acl ?_)); (first | (refine hK _ _ ?_) | (refine ⟨_, rfl, hK _ _ ?_⟩) | (refine Or.inr (hK _ _ ?_)) | (refine Or.inr ⟨rfl, hK _ _ ?_⟩) | (refine ⟨_, _, Or.inl ((hp (some 1) (NR.vsl (NR.ints _ _))).go _), (by first | exact ⟨[], (List.append_nil _).symm⟩ | exact ⟨_, rfl⟩), hK _ _ ?_⟩) | (refine ⟨_, _, Or.inl ((hp (some 1) (NR.vsl (NR.ints _ _))).go _), hK _ _ ?_⟩) | (refine ⟨_, _, Or.inl ((hp (some 1) (NR.vsl (NR.ints _ _))).go _).weakQ, hK _ _ ?_⟩) | (refine ⟨_, _, Or.inl ((WriteString_a (b := 0) (b1 := 1) (acc := bytesOf (bs acc)) (s := bs [92, 117, 48, 48, hx (c.toNat / 16), hx (c.toNat % 16)]) rfl rfl hal.symm hw)), (by first | exact ⟨[], (List.append_nil _).symm⟩ | exact ⟨_, rfl⟩), hK _ _ ?_⟩) | (refine ⟨_, _, Or.inl ((WriteString_a (b := 0) (b1 := 1) (acc := bytesOf (bs acc)) (s := bs [92, 117, 48, 48, hx (c.toNat / 16), hx (c.toNat % 16)]) rfl rfl hal.symm hw)), hK _ _ ?_⟩) | (refine ⟨_, _, Or.inl ((WriteString_a (b := 0) (b1 := 1) (acc := bytesOf (bs acc)) (s := bs [92, 117, 48, 48, hx (c.toNat / 16), hx (c.toNat % 16)]) rfl rfl hal.symm hw)).weakQ, hK _ _ ?_⟩)); clear hK K)
        | (with_reducible refine lops_nil ?_)
        | (with_reducible first | refine lavc_reg ?_ | refine lavc_seq ?_ | refine lavc_block ?_ | refine lavc_skip ?_ | refine lavc_exit ?_ | refine lavc_ret ?_ | refine lavcR_round ?_)
        | (refine lavc_cond rfl (fun _ => ?_) (fun hc => absurd hc (by decide)))
        | (refine lavc_cond rfl (fun hc => absurd hc (by decide)) (fun _ => ?_))
        | (simp only [↓reduceIte, Nat.reduceEqDiff, reduceCtorEq]))
      refine ⟨m - 1, (k + 1, v + 1, acc ++ [92, 117, 48, 48, hx (c.toNat / 16), hx (c.toNat % 16)], gg), by omega, ⟨by show m - 1 + (k + 1) = l.length; omega, fin⟩, ?_, ?_⟩
      · try unfold ms30_0
        exact A0 tt
      · show _ = _ :: _ :: gg
        rw [l3]
        try rfl
    · have q2 : decide ((c.toNat : Int) < 32) = false := by rw [decide_eq_false_iff_not]; omega
      have he : esc1 c = [c] := by unfold esc1; rw [if_neg k1, if_neg k2]
      have fin := hn1 (acc ++ [c]) (by rw [he])
      repeat (first
        | (with_reducible refine lops_step fun K hK => ?_; simp (disch := first | exact dch | fail) only [go_sem, Nat.reduceAdd, Nat.reduceSub, reduceIte, Nat.reduceEqDiff, Int.reduceToNat, Int.reduceBEq, Int.reduceBNe, hc, q0, q1, q2, e3, b1, hal]; (try (first | (refine And.intro (fun _ => ?_) (fun h => absurd h (by decide))) | (refine And.intro (fun h => absurd h (by decide)) (fun _ => ?_)))); (repeat (with_reducible refine And.intro acl ?_)); (first | (refine hK _ _ ?_) | (refine ⟨_, rfl, hK _ _ ?_⟩) | (refine Or.inl (hK _ _ ?_)) | (refine ⟨_, _, Or.inl ((WriteByte_a (b := 0) (b1 := 1) rfl rfl hal.symm (by omega))), (by first | exact ⟨[], (List.append_nil _).symm⟩ | exact ⟨_, rfl⟩), hK _ _ ?_⟩) | (refine ⟨_, _, Or.inl ((WriteByte_a (b := 0) (b1 := 1) rfl rfl hal.symm (by omega))), hK _ _ ?_⟩) | (refine ⟨_, _, Or.inl ((WriteByte_a (b := 0) (b1 := 1) rfl rfl hal.symm (by omega))).weakQ, hK _ _ ?_⟩)); clear hK K)
        | (with_reducible refine lops_nil ?_)
        | (with_reducible first | refine lavc_reg ?_ | refine lavc_seq ?_ | refine lavc_block ?_ | refine lavc_skip ?_ | refine lavc_exit ?_ | refine lavc_ret ?_ | refine lavcR_round ?_)
        | (refine lavc_cond rfl (fun _ => ?_) (fun hc => absurd hc (by decide)))
        | (refine lavc_cond rfl (fun hc => absurd hc (by decide)) (fun _ => ?_))
        | (simp only [↓reduceIte, Nat.reduceEqDiff, reduceCtorEq]))
      refine ⟨m - 1, (k + 1, v + 1, acc ++ [c], gg), by omega, ⟨by show m - 1 + (k + 1) = l.length; omega, fin⟩, ?_, ?_⟩
      · try unfold ms30_0
        exact A0 tt
      · show _ = _ :: _ :: gg
        rw [l1]
        try rfl
  · have hk2 : k = l.length := by omega
    subst hk2
    have b1 : bytesOf (bs acc) ++ [34] = bytesOf (bs V) := by
      have h := bytes_add acc 34
      rw [hV2, ← hi]
      exact h
    have hvl : V.length = acc.length + 1 := by rw [hV2, ← hi]; simp
    have sV := strOf_bs V
    repeat (first
      | (with_reducible refine lops_step fun K hK => ?_; simp (disch := first | exact dch | fail) only [go_sem, Nat.reduceAdd, Nat.reduceSub, reduceIte, Nat.reduceEqDiff, Int.reduceToNat, Int.reduceBEq, Int.reduceBNe, b1, hal, sV]; (try (first | (refine And.intro (fun _ => ?_) (fun h => absurd h (by decide))) | (refine And.intro (fun h => absurd h (by decide)) (fun _ => ?_)))); (repeat (with_reducible refine And.intro acl ?_)); (first | (refine hK _ _ ?_) | (refine ⟨_, rfl, hK _ _ ?_⟩) | (refine Or.inl (hK _ _ ?_)) | (refine ⟨_, _, Or.inl ((WriteByte_a (b := 0) (b1 := 1) rfl rfl hal.symm (by omega))), (by first | exact ⟨[], (List.append_nil _).symm⟩ | exact ⟨_, rfl⟩), hK _ _ ?_⟩) | (refine ⟨_, _, Or.inl ((WriteByte_a (b := 0) (b1 := 1) rfl rfl hal.symm (by omega))), hK _ _ ?_⟩) | (refine ⟨_, _, Or.inl ((WriteByte_a (b := 0) (b1 := 1) rfl rfl hal.symm (by omega))).weakQ, hK _ _ ?_⟩) | (refine ⟨_, _, Or.inl ((String_a (b := 0) (b1 := 1) rfl rfl (by rw [bz_len, hvl]) (by rw [bz_len, hvl]; omega) (bytes_u8 _))), (by first | exact ⟨[], (List.append_nil _).symm⟩ | exact ⟨_, rfl⟩), hK _ _ ?_⟩) | (refine ⟨_, _, Or.inl ((String_a (b := 0) (b1 := 1) rfl rfl (by rw [bz_len, hvl]) (by rw [bz_len, hvl]; omega) (bytes_u8 _))), hK _ _ ?_⟩) | (refine ⟨_, _, Or.inl ((String_a (b := 0) (b1 := 1) rfl rfl (by rw [bz_len, hvl]) (by rw [bz_len, hvl]; omega) (bytes_u8 _))).weakQ, hK _ _ ?_⟩)); clear hK K)
      | (with_reducible refine lops_nil ?_)
      | (with_reducible first | refine lavc_reg ?_ | refine lavc_seq ?_ | refine lavc_block ?_ | refine lavc_skip ?_ | refine lavc_exit ?_ | refine lavc_ret ?_ | refine lavcR_round ?_)
      | (refine lavc_cond rfl (fun _ => ?_) (fun hc => absurd hc (by decide)))
      | (refine lavc_cond rfl (fun hc => absurd hc (by decide)) (fun _ => ?_))
      | (simp only [↓reduceIte, Nat.reduceEqDiff, reduceCtorEq]))
    refine R1 tt ⟨?_⟩
    exact end0 (NR.v _) rfl
end Go.Abs.S
namespace Go.Abs.S
open Go.Proofs
set_option linter.unusedVariables false
set_option linter.unusedSimpArgs false
set_option maxRecDepth 100000
set_option maxHeartbeats 4000000
mutual
/-- A value's text. -/
def prV : Val → List UInt8
  | .mk k t ns vs => if k = 0 then nullB else if k = 1 then falseB else if k = 2 then trueB else if k = 3 then bl t else if k = 4 then quoL (bl t) else if k = 6 then 123 :: (prL 6 ns vs true ++ [125]) else 91 :: (prL k ns vs true ++ [93])
def prL : Int → List ByteArray → List Val → Bool → List UInt8
  | _, _, [], _ => []
  | k, ns, v :: vs, f => (if f = true then [] else [44]) ++ ((if k = 6 then quoL (bl (ns.getD 0 ⟨#[]⟩)) ++ [58] else []) ++ (prV v ++ prL k (ns.drop 1) vs false))
end
mutual
/-- How many writes print a value. -/
def cntV : Val → Nat
  | .mk k t ns vs => if k = 5 ∨ k = 6 then 2 + cntL k vs true else 1
def cntL : Int → List Val → Bool → Nat
  | _, [], _ => 0
  | k, v :: vs, f => (if f = true then 0 else 1) + ((if k = 6 then 1 else 0) + (cntV v + cntL k vs false))
end
theorem prL_step (k : Int) (ns : List ByteArray) (vs : List Val) (j : Nat) (h : j < vs.length) (f : Bool) : prL k (ns.drop j) (vs.drop j) f = (if f = true then [] else [44]) ++ ((if k = 6 then quoL (bl (ns.getD j ⟨#[]⟩)) ++ [58] else []) ++ (prV (vs.getD j default) ++ prL k (ns.drop (j + 1)) (vs.drop (j + 1)) false)) := by
  have e : (ns.drop j).getD 0 ⟨#[]⟩ = ns.getD j ⟨#[]⟩ := by
    rw [List.getD_eq_getElem?_getD, List.getElem?_drop, List.getD_eq_getElem?_getD, Nat.add_zero]
  rw [List.drop_eq_getElem_cons h, prL, e, List.drop_drop, List.getD_eq_getElem?_getD (l := vs), List.getElem?_eq_getElem h]
  rfl
theorem cntL_step (k : Int) (vs : List Val) (j : Nat) (h : j < vs.length) (f : Bool) : cntL k (vs.drop j) f = (if f = true then 0 else 1) + ((if k = 6 then 1 else 0) + (cntV (vs.getD j default) + cntL k (vs.drop (j + 1)) false)) := by
  rw [List.drop_eq_getElem_cons h, cntL, List.getD_eq_getElem?_getD (l := vs), List.getElem?_eq_getElem h]
  rfl
/-- Kinds that there are; as many names as values. -/
def well1 : Val → Prop
  | .mk k t ns vs => 0 ≤ k ∧ k ≤ 6 ∧ (k = 6 → ns.length = vs.length)
mutual
def well : Val → Prop
  | .mk k t ns vs => well1 (.mk k t ns vs) ∧ wellL vs
def wellL : List Val → Prop
  | [] => True
  | v :: l => well v ∧ wellL l
end
theorem wellL_iff : ∀ {l : List Val}, wellL l ↔ ∀ v ∈ l, well v
  | [] => ⟨fun _ _ h => absurd h List.not_mem_nil, fun _ => trivial⟩
  | v :: l => by rw [wellL, List.forall_mem_cons, wellL_iff]
theorem well.at {k : Int} {t : ByteArray} {ns : List ByteArray} {vs : List Val} (h : well (.mk k t ns vs)) : (0 ≤ k ∧ k ≤ 6 ∧ (k = 6 → ns.length = vs.length)) ∧ ∀ v ∈ vs, well v := by
  rw [well, wellL_iff] at h
  exact h
theorem goodL_all : ∀ (l : List Val) (d : Int), goodL l d = 0 → ∀ v ∈ l, goodV v d = 0
  | [], d, _, v, h => absurd h List.not_mem_nil
  | x :: l, d, h, v, hv => by
    rw [goodL] at h
    by_cases h0 : goodV x d = 0
    · rw [if_pos h0] at h
      rcases List.mem_cons.1 hv with rfl | hv
      · exact h0
      · exact goodL_all l d h v hv
    · rw [if_neg h0] at h
      exact absurd h h0
/-- What a value that may be is like. -/
theorem good_at {k : Int} {t : ByteArray} {ns : List ByteArray} {vs : List Val} {d : Int} (h : goodV (.mk k t ns vs) d = 0) : d ≤ 8 ∧ formV (.mk k t ns vs) = true ∧ vs.length ≤ 64 ∧ twiceP ns = false ∧ ∀ v ∈ vs, goodV v (d + 1) = 0 := by
  rw [goodV] at h
  by_cases h8 : 8 < d
  · rw [if_pos h8] at h
    cases h
  rw [if_neg h8] at h
  cases hf : formV (.mk k t ns vs) with
  | false =>
    rw [hf, if_pos rfl] at h
    cases h
  | true =>
    rw [hf, if_neg (by decide)] at h
    by_cases h64 : 64 < vs.length
    · rw [if_pos h64] at h
      cases h
    rw [if_neg h64] at h
    cases ht : twiceP ns with
    | true =>
      rw [ht, if_pos rfl] at h
      cases h
    | false =>
      rw [ht, if_neg (by decide)] at h
      exact ⟨by omega, rfl, by omega, rfl, goodL_all vs (d + 1) h⟩
theorem form_kinds {k : Int} {t : ByteArray} {ns : List ByteArray} {vs : List Val} (h : formV (.mk k t ns vs) = true) : 0 ≤ k ∧ k ≤ 6 ∧ (k = 6 → ns.length = vs.length) := by
  rw [formV] at h
  by_cases c1 : k = 0 ∨ k = 1 ∨ k = 2
  · exact ⟨by omega, by omega, by omega⟩
  rw [if_neg c1] at h
  by_cases c3 : k = 3
  · exact ⟨by omega, by omega, by omega⟩
  rw [if_neg c3] at h
  by_cases c4 : k = 4
  · exact ⟨by omega, by omega, by omega⟩
  rw [if_neg c4] at h
  by_cases c5 : k = 5
  · exact ⟨by omega, by omega, by omega⟩
  rw [if_neg c5] at h
  by_cases c6 : k = 6
  · rw [if_pos c6] at h
    simp only [Bool.and_eq_true, decide_eq_true_eq] at h
    exact ⟨by omega, by omega, fun _ => h.1.2⟩
  · rw [if_neg c6] at h
    cases h
theorem good_well : ∀ (v : Val) (d : Int), goodV v d = 0 → well v := Val.ind fun k t ns vs ih d h => by
  obtain ⟨h1, h2, h3, h4, h5⟩ := good_at h
  rw [well, wellL_iff]
  exact ⟨form_kinds h2, fun v hv => ih v hv (d + 1) (h5 v hv)⟩
def impCodV : FuncId → Bool := fun f => f == 17 || f == 18 || f == 19 || f == 20 || f == 21 || f == 29 || f == 31 || f == 32 || f == 33 || f == 34 || f == 40 || f == 46 || f == 47 || f == 68
/-- escutcheon/page.Print -/
def lc9 : LCode := .seq (.reg []
  [o1 1 (.box 26 (.tmp 0)),
  o1 2 (.assign (.const (.string { data := #[] }))),
  o1 3 (.assign (.const (.int .i64 0)))]) (.seq (.seq (.reg []
  [o1 6 (.load 26 (.tmp 1)),
  o1 7 (.call ⟨.value (.func 16), #[.tmp 6], #[26]⟩),
  o1 4 (.assign (.tmp 7))]) (.seq (.reg []
  [o1 8 (.move (.tmp 4)),
  o1 9 (.binOp .neq 34 (.tmp 8) (.const (.int .i64 0)) 34)]) (.cond (.tmp 9) (.seq (.reg []
  [o1 10 (.move (.tmp 4)),
  o1 2 (.assign (.const (.string { data := #[] }))),
  o1 3 (.assign (.tmp 10))]) (.ret)) (.skip)))) (.seq (.reg []
  [o1 5 (.alloc 51)]) (.seq (.reg []
  [o1 11 (.load 26 (.tmp 1)),
  o1 12 (.call ⟨.value (.func 17), #[.tmp 11, .tmp 5], #[26, 48]⟩)]) (.seq (.reg []
  [o1 13 (.call ⟨.value (.func 18), #[.tmp 5], #[51]⟩),
  o1 2 (.assign (.tmp 13)),
  o1 3 (.assign (.const (.int .i64 0)))]) (.ret)))))
theorem ls9 : Tryz.f9.body.map (strip Tryz.prog impCodV) = some lc9 := by kernel_rfl
theorem lcall9 : LC 9 14 lc9 [.tmp 2, .tmp 3] := LC.of Tryz.func9 (by kernel_rfl) ls9 (by kernel_rfl) (by kernel_rfl)
/-- (escutcheon/page.Value).print -/
def lc17 : LCode := .seq (.reg []
  [o1 2 (.box 26 (.tmp 0))]) (.seq (.reg []
  [o1 4 (.assign (.const (.string { data := #[91] }))),
  o1 5 (.assign (.const (.string { data := #[93] })))]) (.seq (.seq (.reg []
  [o1 8 (.fieldAddr 26 (.tmp 2) 0),
  o1 9 (.load 22 (.tmp 8))]) (.block 0 (.seq (.reg []
  [o1 17 (.binOp .eql 22 (.tmp 9) (.const (.int .i64 3)) 22),
  o1 16 (.assign (.tmp 17))]) (.cond (.tmp 16) (.seq (.reg []
  [o1 18 (.move (.tmp 1)),
  o1 19 (.fieldAddr 26 (.tmp 2) 1),
  o1 20 (.load 9 (.tmp 19)),
  o1 21 (.call ⟨.value (.func 29), #[.tmp 18, .tmp 20], #[48, 9]⟩)]) (.ret)) (.seq (.reg []
  [o1 23 (.binOp .eql 22 (.tmp 9) (.const (.int .i64 4)) 22),
  o1 22 (.assign (.tmp 23))]) (.cond (.tmp 22) (.seq (.reg []
  [o1 24 (.move (.tmp 1)),
  o1 25 (.fieldAddr 26 (.tmp 2) 1),
  o1 26 (.load 9 (.tmp 25)),
  o1 27 (.call ⟨.value (.func 30), #[.tmp 26], #[9]⟩),
  o1 28 (.call ⟨.value (.func 29), #[.tmp 24, .tmp 27], #[48, 9]⟩)]) (.ret)) (.seq (.reg []
  [o1 30 (.binOp .eql 22 (.tmp 9) (.const (.int .i64 6)) 22),
  o1 29 (.assign (.tmp 30))]) (.cond (.tmp 29) (.reg []
  [o1 4 (.assign (.const (.string { data := #[123] }))),
  o1 5 (.assign (.const (.string { data := #[125] })))]) (.seq (.reg []
  [o1 32 (.binOp .eql 22 (.tmp 9) (.const (.int .i64 5)) 22),
  o1 31 (.assign (.tmp 32))]) (.cond (.tmp 31) (.skip) (.seq (.reg []
  [o1 10 (.move (.tmp 1)),
  o1 11 (.fieldAddr 26 (.tmp 2) 0),
  o1 12 (.load 22 (.tmp 11)),
  o1 13 (.indexAddr 59 (.global 0) (.tmp 12)),
  o1 14 (.load 9 (.tmp 13)),
  o1 15 (.call ⟨.value (.func 29), #[.tmp 10, .tmp 14], #[48, 9]⟩)]) (.ret)))))))))))) (.seq (.reg []
  [o1 33 (.move (.tmp 1)),
  o1 34 (.move (.tmp 4)),
  o1 35 (.call ⟨.value (.func 29), #[.tmp 33, .tmp 34], #[48, 9]⟩)]) (.seq (.seq (.reg []
  [o1 36 (.fieldAddr 26 (.tmp 2) 3),
  o1 37 (.load 24 (.tmp 36)),
  o1 38 (.call ⟨.builtin .len, #[.tmp 37], #[24]⟩),
  o1 39 (.move (.const (.int .i64 0)))]) (.block 1 (.loop (.seq (.reg []
  [o1 40 (.binOp .lss 3 (.tmp 39) (.tmp 38) 3)]) (.seq (.cond (.tmp 40) (.skip) (.exit 1)) (.seq (.block 2 (.seq (.reg []
  [o1 41 (.move (.tmp 39)),
  o1 42 (.indexAddr 24 (.tmp 37) (.tmp 39)),
  o1 43 (.load 26 (.tmp 42)),
  o1 7 (.alloc 26),
  o1 6 (.assign (.tmp 41)),
  o3 (.store 26 (.tmp 7) (.tmp 43))]) (.seq (.seq (.reg []
  [o1 44 (.move (.tmp 6)),
  o1 45 (.binOp .gtr 3 (.tmp 44) (.const (.int .i64 0)) 3)]) (.cond (.tmp 45) (.reg []
  [o1 46 (.move (.tmp 1)),
  o1 47 (.call ⟨.value (.func 31), #[.tmp 46, .const (.int .u8 44)], #[48, 5]⟩)]) (.skip))) (.seq (.seq (.reg []
  [o1 48 (.fieldAddr 26 (.tmp 2) 0),
  o1 49 (.load 22 (.tmp 48)),
  o1 50 (.binOp .eql 22 (.tmp 49) (.const (.int .i64 6)) 22)]) (.cond (.tmp 50) (.reg []
  [o1 51 (.move (.tmp 1)),
  o1 52 (.fieldAddr 26 (.tmp 2) 2),
  o1 53 (.load 23 (.tmp 52)),
  o1 54 (.move (.tmp 6)),
  o1 55 (.indexAddr 23 (.tmp 53) (.tmp 54)),
  o1 56 (.load 9 (.tmp 55)),
  o1 57 (.call ⟨.value (.func 30), #[.tmp 56], #[9]⟩),
  o1 58 (.binOp .add 9 (.tmp 57) (.const (.string { data := #[58] })) 9),
  o1 59 (.call ⟨.value (.func 29), #[.tmp 51, .tmp 58], #[48, 9]⟩)]) (.skip))) (.reg []
  [o1 60 (.load 26 (.tmp 7)),
  o1 61 (.move (.tmp 1)),
  o1 62 (.call ⟨.value (.func 17), #[.tmp 60, .tmp 61], #[26, 48]⟩)]))))) (.reg []
  [o1 63 (.binOp .add 3 (.tmp 39) (.const (.int .i64 1)) 3),
  o1 39 (.move (.tmp 63))]))))))) (.reg []
  [o1 64 (.move (.tmp 1)),
  o1 65 (.move (.tmp 5)),
  o1 66 (.call ⟨.value (.func 29), #[.tmp 64, .tmp 65], #[48, 9]⟩)])))))
def ms17_0 : List Nat := [0, 3, 4, 6, 7, 8, 9, 10, 11, 12, 13, 14, 15, 16, 17, 18, 19, 20, 21, 22, 23, 24, 25, 26, 27, 28, 29, 30, 31, 32, 33, 34, 35, 36, 39, 40, 41, 42, 43, 44, 45, 46, 47, 48, 49, 50, 51, 52, 53, 54, 55, 56, 57, 58, 59, 60, 61, 62, 63, 66]
theorem ls17 : Tryz.f17.body.map (strip Tryz.prog impCodV) = some lc17 := by kernel_rfl
theorem lcalll17 {args : List AV} (hargs : args.length ≤ 67) {H0 : AHeap} (h0 : 0 < H0.length) (lo : Nat) (hlo : H0.length ≤ lo) {r0 : AV} {H0' : AHeap}
    (h : lavc Tryz.prog glob lc17 (args ++ List.replicate (67 - args.length) (.v undef)) H0 fun e t H => (e = .normal ∨ e = .ret) ∧ aret Tryz.prog t H [] fun r => FinL lo H r r0 H0') :
    ACall Tryz.prog glob false 17 args H0 r0 H0' := LCallL' ctx Tryz.func17 (by kernel_rfl) ls17 (by kernel_rfl) (by kernel_rfl) hargs h0 lo hlo h
end Go.Abs.S

namespace Go.Abs.S
attribute [local go_sem] lguard aopO aop aenv toAV tput aLoad aStore vcells aBin aNilI aUn aAlloc aBox aBuild aBSlice afill aConv isIntT aappZ aCap aArr aMM aMake aSlice bnd3 bnd aFldAddr aFld aIdxAddr aIdx aExt aLen aCopy aEq0 bAV aUb aapp aappQ agh acont List.getD_cons_zero List.getD_cons_succ List.set_cons_zero List.set_cons_succ List.getElem?_cons_zero List.getElem?_cons_succ List.length_cons List.length_nil List.map_cons List.map_nil ints_length if_true if_false Bool.false_eq_true true_and and_true eq_self ne_eq not_false_eq_true not_true_eq_false beq_self_eq_true Nat.zero_add Nat.add_zero Nat.mul_one Nat.zero_mul Int.toNat_natCast List.toList_toArray List.all_cons List.all_nil AV.one Value.oneCell' Bool.and_true Bool.true_and forall_const true_implies false_implies implies_true Option.map_some Option.map_none Option.isSome_some Option.isSome_none imp_self rdP_flat rdP_row splice_one ints_set ints_get List.append_nil List.cons_append List.nil_append List.getElem?_toArray List.drop_zero ints_drop ints_take List.take_of_length_le splice_all ints_one Option.some.injEq Option.getD_some List.length_replicate zArr List.map_replicate rep_ints splice_intsR List.length_set List.length_append List.flatten_replicate_singleton rep_slice rep_string rep_bool rep_iface List.replicate_zero if_pos if_neg List.mapM_cons List.mapM_nil Option.pure_def Option.bind_eq_bind Option.bind_some Bool.true_eq_false Bool.not_false Bool.not_true get_concat set_concat
open Go.Proofs
set_option linter.unusedVariables false
set_option linter.unusedSimpArgs false
set_option maxRecDepth 100000
set_option maxHeartbeats 8000000
theorem ws_c {HX X : AHeap} {b b1 v v1 : Nat} {acc s : List UInt8} (ok : BOk HX b b1) (hl : acc.length + s.length ≤ 140737488355328) :
    ACall Tryz.prog glob false 29 [.ptr b v 0, .v (.string (bs s))] (BH HX b b1 v v1 (bytesOf (bs acc)) ++ X) (.tup [.v (.int .i64 s.length), .v .nilIface]) (BH HX b b1 v (v1 + 1) (bytesOf (bs (acc ++ s))) ++ X) := by
  rw [BH_app ok, BH_app ok, ← bz_app]
  have h := WriteString_b (v := v) (v1 := v1) (acc := bytesOf (bs acc)) (s := bs s) (ok.app X) (by rw [bz_len, bs_size]; exact hl)
  rw [bs_size] at h
  exact h
theorem wb_c {HX X : AHeap} {b b1 v v1 : Nat} {acc : List UInt8} (c : UInt8) (ok : BOk HX b b1) (hl : acc.length + 1 ≤ 140737488355328) :
    ACall Tryz.prog glob false 31 [.ptr b v 0, .v (.int .u8 (c.toNat : Int))] (BH HX b b1 v v1 (bytesOf (bs acc)) ++ X) (.v .nilIface) (BH HX b b1 v (v1 + 1) (bytesOf (bs (acc ++ [c]))) ++ X) := by
  rw [BH_app ok, BH_app ok, ← bytes_add]
  exact WriteByte_b (v := v) (v1 := v1) (acc := bytesOf (bs acc)) (ok.app X) (by rw [bz_len]; exact hl)
/-- A heap's blocks but a builder's speak of no block that may be written. -/
def NRH (H : AHeap) (b b1 : Nat) : Prop := ∀ (i : Nat) (k : Blk), H[i]? = some k → i ≠ b → i ≠ b1 → ∀ c ∈ k.cells, NR c
theorem NRH.app {H X : AHeap} {b b1 : Nat} (h : NRH H b b1) (hX : ∀ k ∈ X, ∀ c ∈ k.cells, NR c) : NRH (H ++ X) b b1 := fun i k hi hb h1 => by
  rw [List.getElem?_append] at hi
  split at hi
  · exact h i k hi hb h1
  · exact hX k (List.mem_of_getElem? hi)
theorem fin_bh {H X : AHeap} {b b1 v v1 : Nat} {acc : List Int} (ok : BOk H b b1) (hn : NRH H b b1) : FinL H.length (BH (H ++ X) b b1 v v1 acc) (.tup []) (.tup []) (BH H b b1 v v1 acc) := by
  refine ⟨.nr (NR.tup (fun _ h => absurd h List.not_mem_nil)), by rw [BH_len, List.length_append]; omega, fun i k hi hk c hc => ?_, BH_take ok v v1 acc⟩
  by_cases e0 : i = b
  · subst e0
    rw [BH_b (ok.app X)] at hk
    cases hk
    simp only [List.mem_cons, List.not_mem_nil, or_false] at hc
    rcases hc with rfl | rfl
    · exact NL.bad ok.hb
    · exact NL.bsl ok.h1
  by_cases e1 : i = b1
  · subst e1
    rw [BH_1 (ok.app X)] at hk
    cases hk
    exact NL.nr (NR.ints _ _ c hc)
  · rw [BH_get _ _ _ i e0 e1, List.getElem?_append, if_pos hi] at hk
    exact NL.nr (hn i k hk e0 e1 c hc)
theorem bh_box (H : AHeap) (b b1 v v1 : Nat) (a : List Int) (K : Blk) (Y : AHeap) : (BH H b b1 v v1 a ++ K :: Y)[H.length]? = some K := by
  rw [List.getElem?_append_right (by rw [BH_len]; exact Nat.le_refl _), BH_len, Nat.sub_self]
  rfl
theorem bh_len (H : AHeap) (b b1 v v1 : Nat) (a : List Int) (K : Blk) (gg : AHeap) : (BH H b b1 v v1 a ++ K :: gg).length = H.length + 1 + gg.length := by
  rw [List.length_append, BH_len, List.length_cons]
  omega
theorem bh_get (H : AHeap) (b b1 v v1 : Nat) (a : List Int) (K z : Blk) (gg : AHeap) : (BH H b b1 v v1 a ++ K :: (gg ++ [z]))[H.length + 1 + gg.length]? = some z := by
  rw [← List.cons_append, ← List.append_assoc, List.getElem?_append_right (by rw [bh_len]; exact Nat.le_refl _), bh_len, Nat.sub_self]
  rfl
theorem bh_set (H : AHeap) (b b1 v v1 : Nat) (a : List Int) (K z z' : Blk) (gg : AHeap) : (BH H b b1 v v1 a ++ K :: (gg ++ [z])).set (H.length + 1 + gg.length) z' = BH H b b1 v v1 a ++ K :: (gg ++ [z']) := by
  rw [← List.cons_append, ← List.append_assoc, List.set_append_right _ _ (by rw [bh_len]; exact Nat.le_refl _), bh_len, Nat.sub_self, ← List.cons_append, ← List.append_assoc]
  rfl
theorem bh_asc (H : AHeap) (b b1 v v1 : Nat) (a : List Int) (K z : Blk) (gg : AHeap) : BH H b b1 v v1 a ++ K :: gg ++ [z] = BH H b b1 v v1 a ++ K :: (gg ++ [z]) := by
  rw [List.append_assoc, List.cons_append]
theorem print_a : ∀ v : Val, well v → small v → ∀ (H : AHeap) (b b1 bv v1 : Nat) (acc : List UInt8), BOk H b b1 → NRH H b b1 → acc.length + (prV v).length ≤ 1000000000 →
    ACall Tryz.prog glob false 17 [vA v, .ptr b bv 0] (BH H b b1 bv v1 (bytesOf (bs acc))) (.tup []) (BH H b b1 bv (v1 + cntV v) (bytesOf (bs (acc ++ prV v)))) := Val.ind fun k t ns vs ih hw hs H b b1 bv v1 acc ok hn hl => by
  obtain ⟨⟨hk0, hk6, hkn⟩, hwv⟩ := hw.at
  obtain ⟨⟨ht, hnl, hz, hvl⟩, hall⟩ := hs.at
  have hlx := cellsL_length vs
  have hnx := strs_length ns
  refine lcalll17 (by simp) (by rw [BH_len]; have := ok.hb; omega) H.length (by rw [BH_len]; exact Nat.le_refl _) ?_
  rw [prV] at hl
  rw [prV, cntV]
  unfold vA
  rw [Val.cells]
  unfold lc17
  refine I1 tt ⟨?_⟩
  obtain ⟨BX, hBX⟩ : ∃ B, Blk.mk [ivC k, stA t, .vsl ns.length (strs ns) none, .vsl vs.length (cellsL vs) none] 0 true 26 = B := ⟨_, rfl⟩
  have lenH := BH_len H b b1 bv
  have boxX := fun v1 a Y => bh_box H b b1 bv v1 a BX Y
  rw [← hBX] at boxX
  refine G1 F1 (an lenH (an boxX tt)) tt tt tt ⟨?_⟩
  by_cases c0 : k = 0
  · subst c0
    rw [if_neg (by decide)]
    rw [if_pos rfl]
    rw [if_pos rfl] at hl
    have wc : ACall Tryz.prog glob false 29 [.ptr b bv 0, .v (.string ⟨#[110, 117, 108, 108]⟩)] (BH H b b1 bv v1 (bytesOf (bs acc)) ++ [Blk.mk [ivC 0, stA t, .vsl ns.length (strs ns) none, .vsl vs.length (cellsL vs) none] 0 true 26]) (.tup [.v (.int .i64 ((nullB).length : Int)), .v .nilIface]) (BH H b b1 bv (v1 + 1) (bytesOf (bs (acc ++ nullB))) ++ [Blk.mk [ivC 0, stA t, .vsl ns.length (strs ns) none, .vsl vs.length (cellsL vs) none] 0 true 26]) := ws_c (s := nullB) ok (by omega)
    repeat (first
      | (with_reducible refine lops_step fun K hK => ?_; simp (disch := first | exact dch | fail) only [go_sem, Nat.reduceAdd, Nat.reduceSub, reduceIte, Nat.reduceEqDiff, Int.reduceToNat, Int.reduceBEq, Int.reduceBNe, lenH, boxX, glob, av_escutcheon_page_plain]; (try (first | (refine And.intro (fun _ => ?_) (fun h => absurd h (by decide))) | (refine And.intro (fun h => absurd h (by decide)) (fun _ => ?_)))); (repeat (with_reducible refine And.intro acl ?_)); (first | (refine hK _ _ ?_) | (refine ⟨_, rfl, hK _ _ ?_⟩) | (refine Or.inl (hK _ _ ?_)) | (refine ⟨_, _, Or.inl ((wc)), (by first | exact ⟨[], (List.append_nil _).symm⟩ | exact ⟨_, rfl⟩), hK _ _ ?_⟩) | (refine ⟨_, _, Or.inl ((wc)), hK _ _ ?_⟩) | (refine ⟨_, _, Or.inl ((wc)).weakQ, hK _ _ ?_⟩)); clear hK K)
      | (with_reducible refine lops_nil ?_)
      | (with_reducible first | refine lavc_reg ?_ | refine lavc_seq ?_ | refine lavc_block ?_ | refine lavc_skip ?_ | refine lavc_exit ?_ | refine lavc_ret ?_ | refine lavcR_round ?_)
      | (refine lavc_cond rfl (fun _ => ?_) (fun hc => absurd hc (by decide)))
      | (refine lavc_cond rfl (fun hc => absurd hc (by decide)) (fun _ => ?_))
      | (simp only [↓reduceIte, Nat.reduceEqDiff, reduceCtorEq]))
    refine R1 tt ⟨?_⟩
    rw [BH_app ok]
    exact fin_bh ok hn
  by_cases c1 : k = 1
  · subst c1
    rw [if_neg (by decide)]
    rw [if_neg (by decide), if_pos rfl]
    rw [if_neg (by decide), if_pos rfl] at hl
    have wc : ACall Tryz.prog glob false 29 [.ptr b bv 0, .v (.string ⟨#[102, 97, 108, 115, 101]⟩)] (BH H b b1 bv v1 (bytesOf (bs acc)) ++ [Blk.mk [ivC 1, stA t, .vsl ns.length (strs ns) none, .vsl vs.length (cellsL vs) none] 0 true 26]) (.tup [.v (.int .i64 ((falseB).length : Int)), .v .nilIface]) (BH H b b1 bv (v1 + 1) (bytesOf (bs (acc ++ falseB))) ++ [Blk.mk [ivC 1, stA t, .vsl ns.length (strs ns) none, .vsl vs.length (cellsL vs) none] 0 true 26]) := ws_c (s := falseB) ok (by omega)
    repeat (first
      | (with_reducible refine lops_step fun K hK => ?_; simp (disch := first | exact dch | fail) only [go_sem, Nat.reduceAdd, Nat.reduceSub, reduceIte, Nat.reduceEqDiff, Int.reduceToNat, Int.reduceBEq, Int.reduceBNe, lenH, boxX, glob, av_escutcheon_page_plain]; (try (first | (refine And.intro (fun _ => ?_) (fun h => absurd h (by decide))) | (refine And.intro (fun h => absurd h (by decide)) (fun _ => ?_)))); (repeat (with_reducible refine And.intro acl ?_)); (first | (refine hK _ _ ?_) | (refine ⟨_, rfl, hK _ _ ?_⟩) | (refine Or.inl (hK _ _ ?_)) | (refine ⟨_, _, Or.inl ((wc)), (by first | exact ⟨[], (List.append_nil _).symm⟩ | exact ⟨_, rfl⟩), hK _ _ ?_⟩) | (refine ⟨_, _, Or.inl ((wc)), hK _ _ ?_⟩) | (refine ⟨_, _, Or.inl ((wc)).weakQ, hK _ _ ?_⟩)); clear hK K)
      | (with_reducible refine lops_nil ?_)
      | (with_reducible first | refine lavc_reg ?_ | refine lavc_seq ?_ | refine lavc_block ?_ | refine lavc_skip ?_ | refine lavc_exit ?_ | refine lavc_ret ?_ | refine lavcR_round ?_)
      | (refine lavc_cond rfl (fun _ => ?_) (fun hc => absurd hc (by decide)))
      | (refine lavc_cond rfl (fun hc => absurd hc (by decide)) (fun _ => ?_))
      | (simp only [↓reduceIte, Nat.reduceEqDiff, reduceCtorEq]))
    refine R1 tt ⟨?_⟩
    rw [BH_app ok]
    exact fin_bh ok hn
  by_cases c2 : k = 2
  · subst c2
    rw [if_neg (by decide)]
    rw [if_neg (by decide), if_neg (by decide), if_pos rfl]
    rw [if_neg (by decide), if_neg (by decide), if_pos rfl] at hl
    have wc : ACall Tryz.prog glob false 29 [.ptr b bv 0, .v (.string ⟨#[116, 114, 117, 101]⟩)] (BH H b b1 bv v1 (bytesOf (bs acc)) ++ [Blk.mk [ivC 2, stA t, .vsl ns.length (strs ns) none, .vsl vs.length (cellsL vs) none] 0 true 26]) (.tup [.v (.int .i64 ((trueB).length : Int)), .v .nilIface]) (BH H b b1 bv (v1 + 1) (bytesOf (bs (acc ++ trueB))) ++ [Blk.mk [ivC 2, stA t, .vsl ns.length (strs ns) none, .vsl vs.length (cellsL vs) none] 0 true 26]) := ws_c (s := trueB) ok (by omega)
    repeat (first
      | (with_reducible refine lops_step fun K hK => ?_; simp (disch := first | exact dch | fail) only [go_sem, Nat.reduceAdd, Nat.reduceSub, reduceIte, Nat.reduceEqDiff, Int.reduceToNat, Int.reduceBEq, Int.reduceBNe, lenH, boxX, glob, av_escutcheon_page_plain]; (try (first | (refine And.intro (fun _ => ?_) (fun h => absurd h (by decide))) | (refine And.intro (fun h => absurd h (by decide)) (fun _ => ?_)))); (repeat (with_reducible refine And.intro acl ?_)); (first | (refine hK _ _ ?_) | (refine ⟨_, rfl, hK _ _ ?_⟩) | (refine Or.inl (hK _ _ ?_)) | (refine ⟨_, _, Or.inl ((wc)), (by first | exact ⟨[], (List.append_nil _).symm⟩ | exact ⟨_, rfl⟩), hK _ _ ?_⟩) | (refine ⟨_, _, Or.inl ((wc)), hK _ _ ?_⟩) | (refine ⟨_, _, Or.inl ((wc)).weakQ, hK _ _ ?_⟩)); clear hK K)
      | (with_reducible refine lops_nil ?_)
      | (with_reducible first | refine lavc_reg ?_ | refine lavc_seq ?_ | refine lavc_block ?_ | refine lavc_skip ?_ | refine lavc_exit ?_ | refine lavc_ret ?_ | refine lavcR_round ?_)
      | (refine lavc_cond rfl (fun _ => ?_) (fun hc => absurd hc (by decide)))
      | (refine lavc_cond rfl (fun hc => absurd hc (by decide)) (fun _ => ?_))
      | (simp only [↓reduceIte, Nat.reduceEqDiff, reduceCtorEq]))
    refine R1 tt ⟨?_⟩
    rw [BH_app ok]
    exact fin_bh ok hn
  rw [if_neg c0, if_neg c1, if_neg c2] at hl
  rw [if_neg c0, if_neg c1, if_neg c2]
  by_cases c3 : k = 3
  · subst c3
    rw [if_neg (show ¬ ((3 : Int) = 5 ∨ (3 : Int) = 6) by decide), if_pos rfl]
    rw [if_pos rfl] at hl
    have wc : ACall Tryz.prog glob false 29 [.ptr b bv 0, .v (.string t)] (BH H b b1 bv v1 (bytesOf (bs acc)) ++ [Blk.mk [ivC 3, stA t, .vsl ns.length (strs ns) none, .vsl vs.length (cellsL vs) none] 0 true 26]) (.tup [.v (.int .i64 ((bl t).length : Int)), .v .nilIface]) (BH H b b1 bv (v1 + 1) (bytesOf (bs (acc ++ bl t))) ++ [Blk.mk [ivC 3, stA t, .vsl ns.length (strs ns) none, .vsl vs.length (cellsL vs) none] 0 true 26]) := ws_c (s := bl t) ok (by omega)
    repeat (first
      | (with_reducible refine lops_step fun K hK => ?_; simp (disch := first | exact dch | fail) only [go_sem, Nat.reduceAdd, Nat.reduceSub, reduceIte, Nat.reduceEqDiff, Int.reduceToNat, Int.reduceBEq, Int.reduceBNe, lenH, boxX]; (try (first | (refine And.intro (fun _ => ?_) (fun h => absurd h (by decide))) | (refine And.intro (fun h => absurd h (by decide)) (fun _ => ?_)))); (repeat (with_reducible refine And.intro acl ?_)); (first | (refine hK _ _ ?_) | (refine ⟨_, rfl, hK _ _ ?_⟩) | (refine Or.inl (hK _ _ ?_)) | (refine ⟨_, _, Or.inl ((wc)), (by first | exact ⟨[], (List.append_nil _).symm⟩ | exact ⟨_, rfl⟩), hK _ _ ?_⟩) | (refine ⟨_, _, Or.inl ((wc)), hK _ _ ?_⟩) | (refine ⟨_, _, Or.inl ((wc)).weakQ, hK _ _ ?_⟩)); clear hK K)
      | (with_reducible refine lops_nil ?_)
      | (with_reducible first | refine lavc_reg ?_ | refine lavc_seq ?_ | refine lavc_block ?_ | refine lavc_skip ?_ | refine lavc_exit ?_ | refine lavc_ret ?_ | refine lavcR_round ?_)
      | (refine lavc_cond rfl (fun _ => ?_) (fun hc => absurd hc (by decide)))
      | (refine lavc_cond rfl (fun hc => absurd hc (by decide)) (fun _ => ?_))
      | (simp only [↓reduceIte, Nat.reduceEqDiff, reduceCtorEq]))
    refine R1 tt ⟨?_⟩
    rw [BH_app ok]
    exact fin_bh ok hn
  rw [if_neg c3] at hl
  rw [if_neg c3]
  by_cases c4 : k = 4
  · subst c4
    rw [if_neg (show ¬ ((4 : Int) = 5 ∨ (4 : Int) = 6) by decide), if_pos rfl]
    rw [if_pos rfl] at hl
    have hqb := (quoB_len (bl t)).1
    have hqq : (quoL (bl t)).length = (quoB (bl t)).length + 2 := by unfold quoL; simp
    have qp : PCall Tryz.prog glob 30 [stA t] (.v (.string (bs (quoL (bl t))))) := quoted_p (bl t) (by omega)
    have wc : ACall Tryz.prog glob false 29 [.ptr b bv 0, .v (.string (bs (quoL (bl t))))] (BH H b b1 bv v1 (bytesOf (bs acc)) ++ [Blk.mk [ivC 4, stA t, .vsl ns.length (strs ns) none, .vsl vs.length (cellsL vs) none] 0 true 26]) (.tup [.v (.int .i64 ((quoL (bl t)).length : Int)), .v .nilIface]) (BH H b b1 bv (v1 + 1) (bytesOf (bs (acc ++ quoL (bl t)))) ++ [Blk.mk [ivC 4, stA t, .vsl ns.length (strs ns) none, .vsl vs.length (cellsL vs) none] 0 true 26]) := ws_c (s := quoL (bl t)) ok (by omega)
    repeat (first
      | (with_reducible refine lops_step fun K hK => ?_; simp (disch := first | exact dch | fail) only [go_sem, Nat.reduceAdd, Nat.reduceSub, reduceIte, Nat.reduceEqDiff, Int.reduceToNat, Int.reduceBEq, Int.reduceBNe, lenH, boxX]; (try (first | (refine And.intro (fun _ => ?_) (fun h => absurd h (by decide))) | (refine And.intro (fun h => absurd h (by decide)) (fun _ => ?_)))); (repeat (with_reducible refine And.intro acl ?_)); (first | (refine hK _ _ ?_) | (refine ⟨_, rfl, hK _ _ ?_⟩) | (refine Or.inl (hK _ _ ?_)) | (refine ⟨_, _, Or.inl (qp.go _), (by first | exact ⟨[], (List.append_nil _).symm⟩ | exact ⟨_, rfl⟩), hK _ _ ?_⟩) | (refine ⟨_, _, Or.inl (qp.go _), hK _ _ ?_⟩) | (refine ⟨_, _, Or.inl (qp.go _).weakQ, hK _ _ ?_⟩) | (refine ⟨_, _, Or.inl ((wc)), (by first | exact ⟨[], (List.append_nil _).symm⟩ | exact ⟨_, rfl⟩), hK _ _ ?_⟩) | (refine ⟨_, _, Or.inl ((wc)), hK _ _ ?_⟩) | (refine ⟨_, _, Or.inl ((wc)).weakQ, hK _ _ ?_⟩)); clear hK K)
      | (with_reducible refine lops_nil ?_)
      | (with_reducible first | refine lavc_reg ?_ | refine lavc_seq ?_ | refine lavc_block ?_ | refine lavc_skip ?_ | refine lavc_exit ?_ | refine lavc_ret ?_ | refine lavcR_round ?_)
      | (refine lavc_cond rfl (fun _ => ?_) (fun hc => absurd hc (by decide)))
      | (refine lavc_cond rfl (fun hc => absurd hc (by decide)) (fun _ => ?_))
      | (simp only [↓reduceIte, Nat.reduceEqDiff, reduceCtorEq]))
    refine R1 tt ⟨?_⟩
    rw [BH_app ok]
    exact fin_bh ok hn
  rw [if_neg c4] at hl
  rw [if_neg c4]
  clear hBX
  by_cases c6 : k = 6
  · subst c6
    rw [if_pos (by decide)]
    rw [if_pos rfl] at hl
    rw [if_pos rfl]
    obtain ⟨A, hA⟩ : ∃ A, acc ++ [123] ++ prL 6 ns vs true = A := ⟨_, rfl⟩
    obtain ⟨C, hC⟩ : ∃ C, v1 + 1 + cntL 6 vs true = C := ⟨_, rfl⟩
    have hfA : acc ++ 123 :: (prL 6 ns vs true ++ [125]) = A ++ [125] := by rw [← hA]; simp
    have hfC : v1 + (2 + cntL 6 vs true) = C + 1 := by omega
    have hAl : A.length + 1 ≤ 1000000000 := by
      have h := congrArg List.length hfA
      simp only [List.length_append, List.length_cons, List.length_nil] at h hl
      omega
    rw [hfA, hfC]
    have hop : acc.length + 1 ≤ 1000000000 := by
      simp only [List.length_append, List.length_cons] at hl
      omega
    have wo : ACall Tryz.prog glob false 29 [.ptr b bv 0, .v (.string ⟨#[123]⟩)] (BH H b b1 bv v1 (bytesOf (bs acc)) ++ [Blk.mk [ivC 6, stA t, .vsl ns.length (strs ns) none, .vsl vs.length (cellsL vs) none] 0 true 26]) (.tup [.v (.int .i64 (([123]).length : Int)), .v .nilIface]) (BH H b b1 bv (v1 + 1) (bytesOf (bs (acc ++ [123]))) ++ [Blk.mk [ivC 6, stA t, .vsl ns.length (strs ns) none, .vsl vs.length (cellsL vs) none] 0 true 26]) := ws_c (s := [123]) ok (by show acc.length + 1 ≤ _; omega)
    repeat (first
      | (with_reducible refine lops_step fun K hK => ?_; simp (disch := first | exact dch | fail) only [go_sem, Nat.reduceAdd, Nat.reduceSub, reduceIte, Nat.reduceEqDiff, Int.reduceToNat, Int.reduceBEq, Int.reduceBNe, lenH, boxX]; (try (first | (refine And.intro (fun _ => ?_) (fun h => absurd h (by decide))) | (refine And.intro (fun h => absurd h (by decide)) (fun _ => ?_)))); (repeat (with_reducible refine And.intro acl ?_)); (first | (refine hK _ _ ?_) | (refine ⟨_, rfl, hK _ _ ?_⟩) | (refine Or.inl (hK _ _ ?_)) | (refine ⟨_, _, Or.inl ((wo)), (by first | exact ⟨[], (List.append_nil _).symm⟩ | exact ⟨_, rfl⟩), hK _ _ ?_⟩) | (refine ⟨_, _, Or.inl ((wo)), hK _ _ ?_⟩) | (refine ⟨_, _, Or.inl ((wo)).weakQ, hK _ _ ?_⟩)); clear hK K)
      | (with_reducible refine lops_nil ?_)
      | (with_reducible first | refine lavc_reg ?_ | refine lavc_seq ?_ | refine lavc_block ?_ | refine lavc_skip ?_ | refine lavc_exit ?_ | refine lavc_ret ?_ | refine lavcR_round ?_)
      | (refine lavc_cond rfl (fun _ => ?_) (fun hc => absurd hc (by decide)))
      | (refine lavc_cond rfl (fun hc => absurd hc (by decide)) (fun _ => ?_))
      | (simp only [↓reduceIte, Nat.reduceEqDiff, reduceCtorEq]))
    refine lavc_loopM ms17_0 (fun m (x : Nat × Nat × List UInt8 × AHeap) => m + x.1 = vs.length ∧ x.2.1 + cntL 6 (vs.drop x.1) (decide (x.1 = 0)) = C ∧ x.2.2.1 ++ prL 6 (ns.drop x.1) (vs.drop x.1) (decide (x.1 = 0)) = A ∧ (∀ K ∈ x.2.2.2, ∀ c ∈ K.cells, NR c)) (fun x => [(39, ivC x.1)])
      (fun x => BH H b b1 bv x.2.1 (bytesOf (bs x.2.2.1)) ++ (Blk.mk [ivC 6, stA t, .vsl ns.length (strs ns) none, .vsl vs.length (cellsL vs) none] 0 true 26) :: x.2.2.2) vs.length (0, v1 + 1, acc ++ [123], []) ⟨by show vs.length + 0 = _; omega, hC, hA, fun _ h => absurd h List.not_mem_nil⟩ ?_ rfl ?_
    · refine ALe.mk ?_
      simp only [ms17_0, putAll, blank, List.foldl_cons, List.foldl_nil, List.set_cons_succ, List.set_cons_zero, List.cons_append, List.nil_append, ALe0, true_or, or_true, and_true, true_and, eq_self, reduceCtorEq, false_or]
      try rfl
    rintro m ⟨j, ver, ac, gg⟩ ⟨hk, hv, ha, hg⟩
    simp only at hk hv ha hg ⊢
    try unfold ms17_0
    refine M1 tt ⟨?_⟩
    refine G1 F1 tt tt tt tt ⟨?_⟩
    refine cnd rfl (fun hc => ?_) (fun hc => ?_)
    · have hkl : j < vs.length := by omega
      rw [cntL_step 6 vs j hkl] at hv
      rw [prL_step 6 ns vs j hkl] at ha
      have hat := cellsL_at vs j hkl
      have hmem := getD_mem vs j hkl
      have e3 := i64n ((j : Int) + 1) (j + 1) (by omega) (by omega)
      have hj1 : decide (j + 1 = 0) = false := decide_eq_false (by omega)
      have hjn : j < ns.length := by have := hkn rfl; omega
      have hatn := strs_at ns j hjn
      obtain ⟨z, hzz⟩ : ∃ z, ns.getD j ⟨#[]⟩ = z := ⟨_, rfl⟩
      rw [hzz] at hatn ha
      rw [if_pos rfl] at ha hv
      obtain ⟨y, hy⟩ : ∃ y, vs.getD j default = y := ⟨_, rfl⟩
      rw [hy] at hat ha hv hmem
      have hyw := hwv y hmem
      have hys := hall y hmem
      have ihy := ih y hmem hyw hys
      obtain ⟨k', t', ns', vs'⟩ := y
      obtain ⟨NN, hNN⟩ : ∃ N, H.length + 1 + gg.length = N := ⟨_, rfl⟩
      have lenX := fun v1 a => bh_len H b b1 bv v1 a (Blk.mk [ivC 6, stA t, .vsl ns.length (strs ns) none, .vsl vs.length (cellsL vs) none] 0 true 26) gg
      have ascX := fun v1 a z => bh_asc H b b1 bv v1 a (Blk.mk [ivC 6, stA t, .vsl ns.length (strs ns) none, .vsl vs.length (cellsL vs) none] 0 true 26) z gg
      have getX := fun v1 a z => bh_get H b b1 bv v1 a (Blk.mk [ivC 6, stA t, .vsl ns.length (strs ns) none, .vsl vs.length (cellsL vs) none] 0 true 26) z gg
      have setX := fun v1 a z z' => bh_set H b b1 bv v1 a (Blk.mk [ivC 6, stA t, .vsl ns.length (strs ns) none, .vsl vs.length (cellsL vs) none] 0 true 26) z z' gg
      rw [hNN] at lenX getX setX
      obtain ⟨xb, hxb⟩ : ∃ x, Blk.mk [ivC k', stA t', .vsl ns'.length (strs ns') none, .vsl vs'.length (cellsL vs') none] 0 true 26 = x := ⟨_, rfl⟩
      have hgx : ∀ K ∈ gg ++ [xb], ∀ c ∈ K.cells, NR c := fun K hK => by
        rcases List.mem_append.1 hK with h | h
        · exact hg K h
        · rw [List.mem_singleton.1 h, ← hxb]
          have := (Val.mk k' t' ns' vs').nr
          rw [Val.cells] at this
          exact this
      have hgb : ∀ K ∈ (Blk.mk [ivC 6, stA t, .vsl ns.length (strs ns) none, .vsl vs.length (cellsL vs) none] 0 true 26) :: (gg ++ [xb]), ∀ c ∈ K.cells, NR c := fun K hK => by
        rcases List.mem_cons.1 hK with h | h
        · rw [h]
          have := (Val.mk 6 t ns vs).nr
          rw [Val.cells] at this
          exact this
        · exact hgx K h
      have pc : ∀ (va : Nat) (B : List UInt8), B.length + (prV (.mk k' t' ns' vs')).length ≤ 1000000000 → ACall Tryz.prog glob false 17 [vA (.mk k' t' ns' vs'), .ptr b bv 0] (BH H b b1 bv va (bytesOf (bs B)) ++ (Blk.mk [ivC 6, stA t, .vsl ns.length (strs ns) none, .vsl vs.length (cellsL vs) none] 0 true 26) :: (gg ++ [xb])) (.tup []) (BH H b b1 bv (va + cntV (.mk k' t' ns' vs')) (bytesOf (bs (B ++ prV (.mk k' t' ns' vs')))) ++ (Blk.mk [ivC 6, stA t, .vsl ns.length (strs ns) none, .vsl vs.length (cellsL vs) none] 0 true 26) :: (gg ++ [xb])) := fun va B hB => by
        rw [BH_app ok, BH_app ok]
        exact ihy _ b b1 bv va B (ok.app _) (hn.app hgb) hB
      rw [← hxb] at pc
      unfold vA at pc
      rw [Val.cells] at hat pc
      obtain ⟨py, hpy⟩ : ∃ p, prV (.mk k' t' ns' vs') = p := ⟨_, rfl⟩
      obtain ⟨cy, hcy⟩ : ∃ p, cntV (.mk k' t' ns' vs') = p := ⟨_, rfl⟩
      rw [hpy] at ha pc
      rw [hcy] at hv pc
      have hal := congrArg List.length ha
      simp only [List.length_append] at hal
      have hqb := (quoB_len (bl z)).1
      have hqq : (quoL (bl z)).length = (quoB (bl z)).length + 2 := by unfold quoL; simp
      have qp : PCall Tryz.prog glob 30 [stA z] (.v (.string (bs (quoL (bl z))))) := quoted_p (bl z) (by omega)
      have a58 : (#[58] : Array UInt8).size = 1 := rfl
      have s1 : bs (quoL (bl z)) ++ (⟨#[58]⟩ : ByteArray) = bs (quoL (bl z) ++ [58]) := bs_append _ [58]
      by_cases j0 : j = 0
      · have d0 : decide ((j : Int) > 0) = false := by rw [decide_eq_false_iff_not]; omega
        rw [decide_eq_true j0] at ha hv hal
        try simp only [if_true, Bool.false_eq_true, if_false, List.nil_append, List.length_nil, List.length_cons] at ha
        try simp only [if_true, Bool.false_eq_true, if_false, List.nil_append, List.length_nil, List.length_cons] at hv
        try simp only [if_true, Bool.false_eq_true, if_false, List.nil_append, List.length_nil, List.length_cons] at hal
        have wn : ACall Tryz.prog glob false 29 [.ptr b bv 0, .v (.string (bs (quoL (bl z) ++ [58])))] (BH H b b1 bv ver (bytesOf (bs ac)) ++ (Blk.mk [ivC 6, stA t, .vsl ns.length (strs ns) none, .vsl vs.length (cellsL vs) none] 0 true 26) :: (gg ++ [Blk.mk [ivC k', stA t', .vsl ns'.length (strs ns') none, .vsl vs'.length (cellsL vs') none] 0 true 26])) (.tup [.v (.int .i64 ((quoL (bl z) ++ [58]).length : Int)), .v .nilIface]) (BH H b b1 bv (ver + 1) (bytesOf (bs (ac ++ (quoL (bl z) ++ [58])))) ++ (Blk.mk [ivC 6, stA t, .vsl ns.length (strs ns) none, .vsl vs.length (cellsL vs) none] 0 true 26) :: (gg ++ [Blk.mk [ivC k', stA t', .vsl ns'.length (strs ns') none, .vsl vs'.length (cellsL vs') none] 0 true 26])) := ws_c ok (by simp only [List.length_append, List.length_cons, List.length_nil]; omega)
        have pk := pc (ver + 1) (ac ++ (quoL (bl z) ++ [58])) (by
          try simp only [List.length_append, List.length_cons, List.length_nil]
          omega)
        repeat (first
          | (with_reducible refine lops_step fun K hK => ?_; simp (disch := first | exact dch | fail) only [go_sem, Nat.reduceAdd, Nat.reduceSub, reduceIte, Nat.reduceEqDiff, Int.reduceToNat, Int.reduceBEq, Int.reduceBNe, hat, hlx, lenX, ascX, getX, setX, boxX, e3, d0, hatn, hnx, s1, a58]; (try (first | (refine And.intro (fun _ => ?_) (fun h => absurd h (by decide))) | (refine And.intro (fun h => absurd h (by decide)) (fun _ => ?_)))); (repeat (with_reducible refine And.intro acl ?_)); (first | (refine hK _ _ ?_) | (refine ⟨_, rfl, hK _ _ ?_⟩) | (refine Or.inl (hK _ _ ?_)) | (refine ⟨_, _, Or.inl (qp.go _), (by first | exact ⟨[], (List.append_nil _).symm⟩ | exact ⟨_, rfl⟩), hK _ _ ?_⟩) | (refine ⟨_, _, Or.inl (qp.go _), hK _ _ ?_⟩) | (refine ⟨_, _, Or.inl (qp.go _).weakQ, hK _ _ ?_⟩) | (refine ⟨_, _, Or.inl ((wn)), (by first | exact ⟨[], (List.append_nil _).symm⟩ | exact ⟨_, rfl⟩), hK _ _ ?_⟩) | (refine ⟨_, _, Or.inl ((wn)), hK _ _ ?_⟩) | (refine ⟨_, _, Or.inl ((wn)).weakQ, hK _ _ ?_⟩) | (refine ⟨_, _, Or.inl ((pk)), (by first | exact ⟨[], (List.append_nil _).symm⟩ | exact ⟨_, rfl⟩), hK _ _ ?_⟩) | (refine ⟨_, _, Or.inl ((pk)), hK _ _ ?_⟩) | (refine ⟨_, _, Or.inl ((pk)).weakQ, hK _ _ ?_⟩)); clear hK K)
          | (with_reducible refine lops_nil ?_)
          | (with_reducible first | refine lavc_reg ?_ | refine lavc_seq ?_ | refine lavc_block ?_ | refine lavc_skip ?_ | refine lavc_exit ?_ | refine lavc_ret ?_ | refine lavcR_round ?_)
          | (refine lavc_cond rfl (fun _ => ?_) (fun hc => absurd hc (by decide)))
          | (refine lavc_cond rfl (fun hc => absurd hc (by decide)) (fun _ => ?_))
          | (simp only [↓reduceIte, Nat.reduceEqDiff, reduceCtorEq]))
        refine ⟨m - 1, (j + 1, (ver + 1) + cy, (ac ++ (quoL (bl z) ++ [58])) ++ py, gg ++ [Blk.mk [ivC k', stA t', .vsl ns'.length (strs ns') none, .vsl vs'.length (cellsL vs') none] 0 true 26]), by omega, ⟨by show m - 1 + (j + 1) = vs.length; omega, ?_, ?_, by rw [hxb]; exact hgx⟩, ?_, rfl⟩
        · show (ver + 1) + cy + cntL 6 (vs.drop (j + 1)) (decide (j + 1 = 0)) = C
          rw [hj1]
          omega
        · show (ac ++ (quoL (bl z) ++ [58])) ++ py ++ prL 6 (ns.drop (j + 1)) (vs.drop (j + 1)) (decide (j + 1 = 0)) = A
          rw [hj1, ← ha]
          simp only [List.append_assoc, List.cons_append, List.nil_append]
        · try unfold ms17_0
          exact A0 tt
      · have d0 : decide ((j : Int) > 0) = true := by rw [decide_eq_true_eq]; omega
        rw [decide_eq_false j0] at ha hv hal
        try simp only [if_true, Bool.false_eq_true, if_false, List.nil_append, List.length_nil, List.length_cons] at ha
        try simp only [if_true, Bool.false_eq_true, if_false, List.nil_append, List.length_nil, List.length_cons] at hv
        try simp only [if_true, Bool.false_eq_true, if_false, List.nil_append, List.length_nil, List.length_cons] at hal
        have wk : ACall Tryz.prog glob false 31 [.ptr b bv 0, .v (.int .u8 44)] (BH H b b1 bv ver (bytesOf (bs ac)) ++ (Blk.mk [ivC 6, stA t, .vsl ns.length (strs ns) none, .vsl vs.length (cellsL vs) none] 0 true 26) :: (gg ++ [Blk.mk [ivC k', stA t', .vsl ns'.length (strs ns') none, .vsl vs'.length (cellsL vs') none] 0 true 26])) (.v .nilIface) (BH H b b1 bv (ver + 1) (bytesOf (bs (ac ++ [44]))) ++ (Blk.mk [ivC 6, stA t, .vsl ns.length (strs ns) none, .vsl vs.length (cellsL vs) none] 0 true 26) :: (gg ++ [Blk.mk [ivC k', stA t', .vsl ns'.length (strs ns') none, .vsl vs'.length (cellsL vs') none] 0 true 26])) := wb_c 44 ok (by omega)
        have wn : ACall Tryz.prog glob false 29 [.ptr b bv 0, .v (.string (bs (quoL (bl z) ++ [58])))] (BH H b b1 bv (ver + 1) (bytesOf (bs (ac ++ [44]))) ++ (Blk.mk [ivC 6, stA t, .vsl ns.length (strs ns) none, .vsl vs.length (cellsL vs) none] 0 true 26) :: (gg ++ [Blk.mk [ivC k', stA t', .vsl ns'.length (strs ns') none, .vsl vs'.length (cellsL vs') none] 0 true 26])) (.tup [.v (.int .i64 ((quoL (bl z) ++ [58]).length : Int)), .v .nilIface]) (BH H b b1 bv ((ver + 1) + 1) (bytesOf (bs ((ac ++ [44]) ++ (quoL (bl z) ++ [58])))) ++ (Blk.mk [ivC 6, stA t, .vsl ns.length (strs ns) none, .vsl vs.length (cellsL vs) none] 0 true 26) :: (gg ++ [Blk.mk [ivC k', stA t', .vsl ns'.length (strs ns') none, .vsl vs'.length (cellsL vs') none] 0 true 26])) := ws_c ok (by simp only [List.length_append, List.length_cons, List.length_nil]; omega)
        have pk := pc ((ver + 1) + 1) ((ac ++ [44]) ++ (quoL (bl z) ++ [58])) (by
          try simp only [List.length_append, List.length_cons, List.length_nil]
          omega)
        repeat (first
          | (with_reducible refine lops_step fun K hK => ?_; simp (disch := first | exact dch | fail) only [go_sem, Nat.reduceAdd, Nat.reduceSub, reduceIte, Nat.reduceEqDiff, Int.reduceToNat, Int.reduceBEq, Int.reduceBNe, hat, hlx, lenX, ascX, getX, setX, boxX, e3, d0, hatn, hnx, s1, a58]; (try (first | (refine And.intro (fun _ => ?_) (fun h => absurd h (by decide))) | (refine And.intro (fun h => absurd h (by decide)) (fun _ => ?_)))); (repeat (with_reducible refine And.intro acl ?_)); (first | (refine hK _ _ ?_) | (refine ⟨_, rfl, hK _ _ ?_⟩) | (refine Or.inl (hK _ _ ?_)) | (refine ⟨_, _, Or.inl ((wk)), (by first | exact ⟨[], (List.append_nil _).symm⟩ | exact ⟨_, rfl⟩), hK _ _ ?_⟩) | (refine ⟨_, _, Or.inl ((wk)), hK _ _ ?_⟩) | (refine ⟨_, _, Or.inl ((wk)).weakQ, hK _ _ ?_⟩) | (refine ⟨_, _, Or.inl (qp.go _), (by first | exact ⟨[], (List.append_nil _).symm⟩ | exact ⟨_, rfl⟩), hK _ _ ?_⟩) | (refine ⟨_, _, Or.inl (qp.go _), hK _ _ ?_⟩) | (refine ⟨_, _, Or.inl (qp.go _).weakQ, hK _ _ ?_⟩) | (refine ⟨_, _, Or.inl ((wn)), (by first | exact ⟨[], (List.append_nil _).symm⟩ | exact ⟨_, rfl⟩), hK _ _ ?_⟩) | (refine ⟨_, _, Or.inl ((wn)), hK _ _ ?_⟩) | (refine ⟨_, _, Or.inl ((wn)).weakQ, hK _ _ ?_⟩) | (refine ⟨_, _, Or.inl ((pk)), (by first | exact ⟨[], (List.append_nil _).symm⟩ | exact ⟨_, rfl⟩), hK _ _ ?_⟩) | (refine ⟨_, _, Or.inl ((pk)), hK _ _ ?_⟩) | (refine ⟨_, _, Or.inl ((pk)).weakQ, hK _ _ ?_⟩)); clear hK K)
          | (with_reducible refine lops_nil ?_)
          | (with_reducible first | refine lavc_reg ?_ | refine lavc_seq ?_ | refine lavc_block ?_ | refine lavc_skip ?_ | refine lavc_exit ?_ | refine lavc_ret ?_ | refine lavcR_round ?_)
          | (refine lavc_cond rfl (fun _ => ?_) (fun hc => absurd hc (by decide)))
          | (refine lavc_cond rfl (fun hc => absurd hc (by decide)) (fun _ => ?_))
          | (simp only [↓reduceIte, Nat.reduceEqDiff, reduceCtorEq]))
        refine ⟨m - 1, (j + 1, ((ver + 1) + 1) + cy, ((ac ++ [44]) ++ (quoL (bl z) ++ [58])) ++ py, gg ++ [Blk.mk [ivC k', stA t', .vsl ns'.length (strs ns') none, .vsl vs'.length (cellsL vs') none] 0 true 26]), by omega, ⟨by show m - 1 + (j + 1) = vs.length; omega, ?_, ?_, by rw [hxb]; exact hgx⟩, ?_, rfl⟩
        · show ((ver + 1) + 1) + cy + cntL 6 (vs.drop (j + 1)) (decide (j + 1 = 0)) = C
          rw [hj1]
          omega
        · show ((ac ++ [44]) ++ (quoL (bl z) ++ [58])) ++ py ++ prL 6 (ns.drop (j + 1)) (vs.drop (j + 1)) (decide (j + 1 = 0)) = A
          rw [hj1, ← ha]
          simp only [List.append_assoc, List.cons_append, List.nil_append]
        · try unfold ms17_0
          exact A0 tt
    · have hk2 : j = vs.length := by omega
      rw [hk2, List.drop_length] at hv ha
      rw [prL, List.append_nil] at ha
      rw [cntL, Nat.add_zero] at hv
      subst ha hv
      have wz : ACall Tryz.prog glob false 29 [.ptr b bv 0, .v (.string ⟨#[125]⟩)] (BH H b b1 bv ver (bytesOf (bs ac)) ++ (Blk.mk [ivC 6, stA t, .vsl ns.length (strs ns) none, .vsl vs.length (cellsL vs) none] 0 true 26) :: gg) (.tup [.v (.int .i64 1), .v .nilIface]) (BH H b b1 bv (ver + 1) (bytesOf (bs (ac ++ [125]))) ++ (Blk.mk [ivC 6, stA t, .vsl ns.length (strs ns) none, .vsl vs.length (cellsL vs) none] 0 true 26) :: gg) := ws_c (s := [125]) ok (by show ac.length + 1 ≤ _; omega)
      repeat (first
        | (with_reducible refine lops_step fun K hK => ?_; simp (disch := first | exact dch | fail) only [go_sem, Nat.reduceAdd, Nat.reduceSub, reduceIte, Nat.reduceEqDiff, Int.reduceToNat, Int.reduceBEq, Int.reduceBNe]; (try (first | (refine And.intro (fun _ => ?_) (fun h => absurd h (by decide))) | (refine And.intro (fun h => absurd h (by decide)) (fun _ => ?_)))); (repeat (with_reducible refine And.intro acl ?_)); (first | (refine hK _ _ ?_) | (refine ⟨_, rfl, hK _ _ ?_⟩) | (refine Or.inl (hK _ _ ?_)) | (refine ⟨_, _, Or.inl ((wz)), (by first | exact ⟨[], (List.append_nil _).symm⟩ | exact ⟨_, rfl⟩), hK _ _ ?_⟩) | (refine ⟨_, _, Or.inl ((wz)), hK _ _ ?_⟩) | (refine ⟨_, _, Or.inl ((wz)).weakQ, hK _ _ ?_⟩)); clear hK K)
        | (with_reducible refine lops_nil ?_)
        | (with_reducible first | refine lavc_reg ?_ | refine lavc_seq ?_ | refine lavc_block ?_ | refine lavc_skip ?_ | refine lavc_exit ?_ | refine lavc_ret ?_ | refine lavcR_round ?_)
        | (refine lavc_cond rfl (fun _ => ?_) (fun hc => absurd hc (by decide)))
        | (refine lavc_cond rfl (fun hc => absurd hc (by decide)) (fun _ => ?_))
        | (simp only [↓reduceIte, Nat.reduceEqDiff, reduceCtorEq]))
      refine R1 tt ⟨?_⟩
      rw [BH_app ok]
      exact fin_bh ok hn
  have c5 : k = 5 := by omega
  · subst c5
    rw [if_pos (by decide)]
    rw [if_neg (by decide)] at hl
    rw [if_neg (by decide)]
    obtain ⟨A, hA⟩ : ∃ A, acc ++ [91] ++ prL 5 ns vs true = A := ⟨_, rfl⟩
    obtain ⟨C, hC⟩ : ∃ C, v1 + 1 + cntL 5 vs true = C := ⟨_, rfl⟩
    have hfA : acc ++ 91 :: (prL 5 ns vs true ++ [93]) = A ++ [93] := by rw [← hA]; simp
    have hfC : v1 + (2 + cntL 5 vs true) = C + 1 := by omega
    have hAl : A.length + 1 ≤ 1000000000 := by
      have h := congrArg List.length hfA
      simp only [List.length_append, List.length_cons, List.length_nil] at h hl
      omega
    rw [hfA, hfC]
    have hop : acc.length + 1 ≤ 1000000000 := by
      simp only [List.length_append, List.length_cons] at hl
      omega
    have wo : ACall Tryz.prog glob false 29 [.ptr b bv 0, .v (.string ⟨#[91]⟩)] (BH H b b1 bv v1 (bytesOf (bs acc)) ++ [Blk.mk [ivC 5, stA t, .vsl ns.length (strs ns) none, .vsl vs.length (cellsL vs) none] 0 true 26]) (.tup [.v (.int .i64 (([91]).length : Int)), .v .nilIface]) (BH H b b1 bv (v1 + 1) (bytesOf (bs (acc ++ [91]))) ++ [Blk.mk [ivC 5, stA t, .vsl ns.length (strs ns) none, .vsl vs.length (cellsL vs) none] 0 true 26]) := ws_c (s := [91]) ok (by show acc.length + 1 ≤ _; omega)
    repeat (first
      | (with_reducible refine lops_step fun K hK => ?_; simp (disch := first | exact dch | fail) only [go_sem, Nat.reduceAdd, Nat.reduceSub, reduceIte, Nat.reduceEqDiff, Int.reduceToNat, Int.reduceBEq, Int.reduceBNe, lenH, boxX]; (try (first | (refine And.intro (fun _ => ?_) (fun h => absurd h (by decide))) | (refine And.intro (fun h => absurd h (by decide)) (fun _ => ?_)))); (repeat (with_reducible refine And.intro acl ?_)); (first | (refine hK _ _ ?_) | (refine ⟨_, rfl, hK _ _ ?_⟩) | (refine Or.inl (hK _ _ ?_)) | (refine ⟨_, _, Or.inl ((wo)), (by first | exact ⟨[], (List.append_nil _).symm⟩ | exact ⟨_, rfl⟩), hK _ _ ?_⟩) | (refine ⟨_, _, Or.inl ((wo)), hK _ _ ?_⟩) | (refine ⟨_, _, Or.inl ((wo)).weakQ, hK _ _ ?_⟩)); clear hK K)
      | (with_reducible refine lops_nil ?_)
      | (with_reducible first | refine lavc_reg ?_ | refine lavc_seq ?_ | refine lavc_block ?_ | refine lavc_skip ?_ | refine lavc_exit ?_ | refine lavc_ret ?_ | refine lavcR_round ?_)
      | (refine lavc_cond rfl (fun _ => ?_) (fun hc => absurd hc (by decide)))
      | (refine lavc_cond rfl (fun hc => absurd hc (by decide)) (fun _ => ?_))
      | (simp only [↓reduceIte, Nat.reduceEqDiff, reduceCtorEq]))
    refine lavc_loopM ms17_0 (fun m (x : Nat × Nat × List UInt8 × AHeap) => m + x.1 = vs.length ∧ x.2.1 + cntL 5 (vs.drop x.1) (decide (x.1 = 0)) = C ∧ x.2.2.1 ++ prL 5 (ns.drop x.1) (vs.drop x.1) (decide (x.1 = 0)) = A ∧ (∀ K ∈ x.2.2.2, ∀ c ∈ K.cells, NR c)) (fun x => [(39, ivC x.1)])
      (fun x => BH H b b1 bv x.2.1 (bytesOf (bs x.2.2.1)) ++ (Blk.mk [ivC 5, stA t, .vsl ns.length (strs ns) none, .vsl vs.length (cellsL vs) none] 0 true 26) :: x.2.2.2) vs.length (0, v1 + 1, acc ++ [91], []) ⟨by show vs.length + 0 = _; omega, hC, hA, fun _ h => absurd h List.not_mem_nil⟩ ?_ rfl ?_
    · refine ALe.mk ?_
      simp only [ms17_0, putAll, blank, List.foldl_cons, List.foldl_nil, List.set_cons_succ, List.set_cons_zero, List.cons_append, List.nil_append, ALe0, true_or, or_true, and_true, true_and, eq_self, reduceCtorEq, false_or]
      try rfl
    rintro m ⟨j, ver, ac, gg⟩ ⟨hk, hv, ha, hg⟩
    simp only at hk hv ha hg ⊢
    try unfold ms17_0
    refine M1 tt ⟨?_⟩
    refine G1 F1 tt tt tt tt ⟨?_⟩
    refine cnd rfl (fun hc => ?_) (fun hc => ?_)
    · have hkl : j < vs.length := by omega
      rw [cntL_step 5 vs j hkl] at hv
      rw [prL_step 5 ns vs j hkl] at ha
      have hat := cellsL_at vs j hkl
      have hmem := getD_mem vs j hkl
      have e3 := i64n ((j : Int) + 1) (j + 1) (by omega) (by omega)
      have hj1 : decide (j + 1 = 0) = false := decide_eq_false (by omega)
      rw [if_neg (show ¬ ((5 : Int) = 6) by decide)] at ha hv
      obtain ⟨y, hy⟩ : ∃ y, vs.getD j default = y := ⟨_, rfl⟩
      rw [hy] at hat ha hv hmem
      have hyw := hwv y hmem
      have hys := hall y hmem
      have ihy := ih y hmem hyw hys
      obtain ⟨k', t', ns', vs'⟩ := y
      obtain ⟨NN, hNN⟩ : ∃ N, H.length + 1 + gg.length = N := ⟨_, rfl⟩
      have lenX := fun v1 a => bh_len H b b1 bv v1 a (Blk.mk [ivC 5, stA t, .vsl ns.length (strs ns) none, .vsl vs.length (cellsL vs) none] 0 true 26) gg
      have ascX := fun v1 a z => bh_asc H b b1 bv v1 a (Blk.mk [ivC 5, stA t, .vsl ns.length (strs ns) none, .vsl vs.length (cellsL vs) none] 0 true 26) z gg
      have getX := fun v1 a z => bh_get H b b1 bv v1 a (Blk.mk [ivC 5, stA t, .vsl ns.length (strs ns) none, .vsl vs.length (cellsL vs) none] 0 true 26) z gg
      have setX := fun v1 a z z' => bh_set H b b1 bv v1 a (Blk.mk [ivC 5, stA t, .vsl ns.length (strs ns) none, .vsl vs.length (cellsL vs) none] 0 true 26) z z' gg
      rw [hNN] at lenX getX setX
      obtain ⟨xb, hxb⟩ : ∃ x, Blk.mk [ivC k', stA t', .vsl ns'.length (strs ns') none, .vsl vs'.length (cellsL vs') none] 0 true 26 = x := ⟨_, rfl⟩
      have hgx : ∀ K ∈ gg ++ [xb], ∀ c ∈ K.cells, NR c := fun K hK => by
        rcases List.mem_append.1 hK with h | h
        · exact hg K h
        · rw [List.mem_singleton.1 h, ← hxb]
          have := (Val.mk k' t' ns' vs').nr
          rw [Val.cells] at this
          exact this
      have hgb : ∀ K ∈ (Blk.mk [ivC 5, stA t, .vsl ns.length (strs ns) none, .vsl vs.length (cellsL vs) none] 0 true 26) :: (gg ++ [xb]), ∀ c ∈ K.cells, NR c := fun K hK => by
        rcases List.mem_cons.1 hK with h | h
        · rw [h]
          have := (Val.mk 5 t ns vs).nr
          rw [Val.cells] at this
          exact this
        · exact hgx K h
      have pc : ∀ (va : Nat) (B : List UInt8), B.length + (prV (.mk k' t' ns' vs')).length ≤ 1000000000 → ACall Tryz.prog glob false 17 [vA (.mk k' t' ns' vs'), .ptr b bv 0] (BH H b b1 bv va (bytesOf (bs B)) ++ (Blk.mk [ivC 5, stA t, .vsl ns.length (strs ns) none, .vsl vs.length (cellsL vs) none] 0 true 26) :: (gg ++ [xb])) (.tup []) (BH H b b1 bv (va + cntV (.mk k' t' ns' vs')) (bytesOf (bs (B ++ prV (.mk k' t' ns' vs')))) ++ (Blk.mk [ivC 5, stA t, .vsl ns.length (strs ns) none, .vsl vs.length (cellsL vs) none] 0 true 26) :: (gg ++ [xb])) := fun va B hB => by
        rw [BH_app ok, BH_app ok]
        exact ihy _ b b1 bv va B (ok.app _) (hn.app hgb) hB
      rw [← hxb] at pc
      unfold vA at pc
      rw [Val.cells] at hat pc
      obtain ⟨py, hpy⟩ : ∃ p, prV (.mk k' t' ns' vs') = p := ⟨_, rfl⟩
      obtain ⟨cy, hcy⟩ : ∃ p, cntV (.mk k' t' ns' vs') = p := ⟨_, rfl⟩
      rw [hpy] at ha pc
      rw [hcy] at hv pc
      have hal := congrArg List.length ha
      simp only [List.length_append] at hal
      by_cases j0 : j = 0
      · have d0 : decide ((j : Int) > 0) = false := by rw [decide_eq_false_iff_not]; omega
        rw [decide_eq_true j0] at ha hv hal
        try simp only [if_true, Bool.false_eq_true, if_false, List.nil_append, List.length_nil, List.length_cons] at ha
        try simp only [if_true, Bool.false_eq_true, if_false, List.nil_append, List.length_nil, List.length_cons] at hv
        try simp only [if_true, Bool.false_eq_true, if_false, List.nil_append, List.length_nil, List.length_cons] at hal
        have pk := pc ver ac (by
          try simp only [List.length_append, List.length_cons, List.length_nil]
          omega)
        repeat (first
          | (with_reducible refine lops_step fun K hK => ?_; simp (disch := first | exact dch | fail) only [go_sem, Nat.reduceAdd, Nat.reduceSub, reduceIte, Nat.reduceEqDiff, Int.reduceToNat, Int.reduceBEq, Int.reduceBNe, hat, hlx, lenX, ascX, getX, setX, boxX, e3, d0]; (try (first | (refine And.intro (fun _ => ?_) (fun h => absurd h (by decide))) | (refine And.intro (fun h => absurd h (by decide)) (fun _ => ?_)))); (repeat (with_reducible refine And.intro acl ?_)); (first | (refine hK _ _ ?_) | (refine ⟨_, rfl, hK _ _ ?_⟩) | (refine Or.inl (hK _ _ ?_)) | (refine ⟨_, _, Or.inl ((pk)), (by first | exact ⟨[], (List.append_nil _).symm⟩ | exact ⟨_, rfl⟩), hK _ _ ?_⟩) | (refine ⟨_, _, Or.inl ((pk)), hK _ _ ?_⟩) | (refine ⟨_, _, Or.inl ((pk)).weakQ, hK _ _ ?_⟩)); clear hK K)
          | (with_reducible refine lops_nil ?_)
          | (with_reducible first | refine lavc_reg ?_ | refine lavc_seq ?_ | refine lavc_block ?_ | refine lavc_skip ?_ | refine lavc_exit ?_ | refine lavc_ret ?_ | refine lavcR_round ?_)
          | (refine lavc_cond rfl (fun _ => ?_) (fun hc => absurd hc (by decide)))
          | (refine lavc_cond rfl (fun hc => absurd hc (by decide)) (fun _ => ?_))
          | (simp only [↓reduceIte, Nat.reduceEqDiff, reduceCtorEq]))
        refine ⟨m - 1, (j + 1, ver + cy, ac ++ py, gg ++ [Blk.mk [ivC k', stA t', .vsl ns'.length (strs ns') none, .vsl vs'.length (cellsL vs') none] 0 true 26]), by omega, ⟨by show m - 1 + (j + 1) = vs.length; omega, ?_, ?_, by rw [hxb]; exact hgx⟩, ?_, rfl⟩
        · show ver + cy + cntL 5 (vs.drop (j + 1)) (decide (j + 1 = 0)) = C
          rw [hj1]
          omega
        · show ac ++ py ++ prL 5 (ns.drop (j + 1)) (vs.drop (j + 1)) (decide (j + 1 = 0)) = A
          rw [hj1, ← ha]
          simp only [List.append_assoc, List.cons_append, List.nil_append]
        · try unfold ms17_0
          exact A0 tt
      · have d0 : decide ((j : Int) > 0) = true := by rw [decide_eq_true_eq]; omega
        rw [decide_eq_false j0] at ha hv hal
        try simp only [if_true, Bool.false_eq_true, if_false, List.nil_append, List.length_nil, List.length_cons] at ha
        try simp only [if_true, Bool.false_eq_true, if_false, List.nil_append, List.length_nil, List.length_cons] at hv
        try simp only [if_true, Bool.false_eq_true, if_false, List.nil_append, List.length_nil, List.length_cons] at hal
        have wk : ACall Tryz.prog glob false 31 [.ptr b bv 0, .v (.int .u8 44)] (BH H b b1 bv ver (bytesOf (bs ac)) ++ (Blk.mk [ivC 5, stA t, .vsl ns.length (strs ns) none, .vsl vs.length (cellsL vs) none] 0 true 26) :: (gg ++ [Blk.mk [ivC k', stA t', .vsl ns'.length (strs ns') none, .vsl vs'.length (cellsL vs') none] 0 true 26])) (.v .nilIface) (BH H b b1 bv (ver + 1) (bytesOf (bs (ac ++ [44]))) ++ (Blk.mk [ivC 5, stA t, .vsl ns.length (strs ns) none, .vsl vs.length (cellsL vs) none] 0 true 26) :: (gg ++ [Blk.mk [ivC k', stA t', .vsl ns'.length (strs ns') none, .vsl vs'.length (cellsL vs') none] 0 true 26])) := wb_c 44 ok (by omega)
        have pk := pc (ver + 1) (ac ++ [44]) (by
          try simp only [List.length_append, List.length_cons, List.length_nil]
          omega)
        repeat (first
          | (with_reducible refine lops_step fun K hK => ?_; simp (disch := first | exact dch | fail) only [go_sem, Nat.reduceAdd, Nat.reduceSub, reduceIte, Nat.reduceEqDiff, Int.reduceToNat, Int.reduceBEq, Int.reduceBNe, hat, hlx, lenX, ascX, getX, setX, boxX, e3, d0]; (try (first | (refine And.intro (fun _ => ?_) (fun h => absurd h (by decide))) | (refine And.intro (fun h => absurd h (by decide)) (fun _ => ?_)))); (repeat (with_reducible refine And.intro acl ?_)); (first | (refine hK _ _ ?_) | (refine ⟨_, rfl, hK _ _ ?_⟩) | (refine Or.inl (hK _ _ ?_)) | (refine ⟨_, _, Or.inl ((wk)), (by first | exact ⟨[], (List.append_nil _).symm⟩ | exact ⟨_, rfl⟩), hK _ _ ?_⟩) | (refine ⟨_, _, Or.inl ((wk)), hK _ _ ?_⟩) | (refine ⟨_, _, Or.inl ((wk)).weakQ, hK _ _ ?_⟩) | (refine ⟨_, _, Or.inl ((pk)), (by first | exact ⟨[], (List.append_nil _).symm⟩ | exact ⟨_, rfl⟩), hK _ _ ?_⟩) | (refine ⟨_, _, Or.inl ((pk)), hK _ _ ?_⟩) | (refine ⟨_, _, Or.inl ((pk)).weakQ, hK _ _ ?_⟩)); clear hK K)
          | (with_reducible refine lops_nil ?_)
          | (with_reducible first | refine lavc_reg ?_ | refine lavc_seq ?_ | refine lavc_block ?_ | refine lavc_skip ?_ | refine lavc_exit ?_ | refine lavc_ret ?_ | refine lavcR_round ?_)
          | (refine lavc_cond rfl (fun _ => ?_) (fun hc => absurd hc (by decide)))
          | (refine lavc_cond rfl (fun hc => absurd hc (by decide)) (fun _ => ?_))
          | (simp only [↓reduceIte, Nat.reduceEqDiff, reduceCtorEq]))
        refine ⟨m - 1, (j + 1, (ver + 1) + cy, (ac ++ [44]) ++ py, gg ++ [Blk.mk [ivC k', stA t', .vsl ns'.length (strs ns') none, .vsl vs'.length (cellsL vs') none] 0 true 26]), by omega, ⟨by show m - 1 + (j + 1) = vs.length; omega, ?_, ?_, by rw [hxb]; exact hgx⟩, ?_, rfl⟩
        · show (ver + 1) + cy + cntL 5 (vs.drop (j + 1)) (decide (j + 1 = 0)) = C
          rw [hj1]
          omega
        · show (ac ++ [44]) ++ py ++ prL 5 (ns.drop (j + 1)) (vs.drop (j + 1)) (decide (j + 1 = 0)) = A
          rw [hj1, ← ha]
          simp only [List.append_assoc, List.cons_append, List.nil_append]
        · try unfold ms17_0
          exact A0 tt
    · have hk2 : j = vs.length := by omega
      rw [hk2, List.drop_length] at hv ha
      rw [prL, List.append_nil] at ha
      rw [cntL, Nat.add_zero] at hv
      subst ha hv
      have wz : ACall Tryz.prog glob false 29 [.ptr b bv 0, .v (.string ⟨#[93]⟩)] (BH H b b1 bv ver (bytesOf (bs ac)) ++ (Blk.mk [ivC 5, stA t, .vsl ns.length (strs ns) none, .vsl vs.length (cellsL vs) none] 0 true 26) :: gg) (.tup [.v (.int .i64 1), .v .nilIface]) (BH H b b1 bv (ver + 1) (bytesOf (bs (ac ++ [93]))) ++ (Blk.mk [ivC 5, stA t, .vsl ns.length (strs ns) none, .vsl vs.length (cellsL vs) none] 0 true 26) :: gg) := ws_c (s := [93]) ok (by show ac.length + 1 ≤ _; omega)
      repeat (first
        | (with_reducible refine lops_step fun K hK => ?_; simp (disch := first | exact dch | fail) only [go_sem, Nat.reduceAdd, Nat.reduceSub, reduceIte, Nat.reduceEqDiff, Int.reduceToNat, Int.reduceBEq, Int.reduceBNe]; (try (first | (refine And.intro (fun _ => ?_) (fun h => absurd h (by decide))) | (refine And.intro (fun h => absurd h (by decide)) (fun _ => ?_)))); (repeat (with_reducible refine And.intro acl ?_)); (first | (refine hK _ _ ?_) | (refine ⟨_, rfl, hK _ _ ?_⟩) | (refine Or.inl (hK _ _ ?_)) | (refine ⟨_, _, Or.inl ((wz)), (by first | exact ⟨[], (List.append_nil _).symm⟩ | exact ⟨_, rfl⟩), hK _ _ ?_⟩) | (refine ⟨_, _, Or.inl ((wz)), hK _ _ ?_⟩) | (refine ⟨_, _, Or.inl ((wz)).weakQ, hK _ _ ?_⟩)); clear hK K)
        | (with_reducible refine lops_nil ?_)
        | (with_reducible first | refine lavc_reg ?_ | refine lavc_seq ?_ | refine lavc_block ?_ | refine lavc_skip ?_ | refine lavc_exit ?_ | refine lavc_ret ?_ | refine lavcR_round ?_)
        | (refine lavc_cond rfl (fun _ => ?_) (fun hc => absurd hc (by decide)))
        | (refine lavc_cond rfl (fun hc => absurd hc (by decide)) (fun _ => ?_))
        | (simp only [↓reduceIte, Nat.reduceEqDiff, reduceCtorEq]))
      refine R1 tt ⟨?_⟩
      rw [BH_app ok]
      exact fin_bh ok hn
end Go.Abs.S
