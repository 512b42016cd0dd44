/- A listed package-level variable whose datum is plain (numbers, bools, texts, structs and arrays of these) holds just the cells that its type and datum tell. Condition: the listing is met by the world. -/
import Derived.Carry
import Derived.FnData
import Derived.KernelRfl
import Derived.MakeChecks
import Derived.OpenShut
import Derived.ProofKit
namespace Go.Proofs.YtgmchiadphdlhaaDoor.LaidCells
variable {H : Type}
/-- The cells of plain data (numbers, bools, texts, structs and arrays of these), by type. -/
def expFields (P : Program) (go : TypeId → DataW H → Option (List Value)) : List Field → List (DataW H) → Nat → Option (List Value)
  | [], [], _ => some []
  | f :: fs, d :: ds, off => if f.offset = off then (go f.type d).bind fun l => if l.length = P.cellsOf f.type then (expFields P go fs ds (off + l.length)).map (l ++ ·) else none else none
  | _, _, _ => none
def expElems (go : DataW H → Option (List Value)) (size : Nat) : List (DataW H) → Option (List Value)
  | [] => some []
  | d :: ds => (go d).bind fun l => if l.length = size then (expElems go size ds).map (l ++ ·) else none
def exp (P : Program) : Nat → TypeId → DataW H → Option (List Value)
  | 0, _, _ => none
  | n + 1, t, d =>
    match P.underlying t, d with
    | some (.int k), .lit (.int k' i) => if k' = k then some [.int k i] else none
    | some .bool, .lit (.bool b) => some [.bool b]
    | some .string, .lit (.string s) => some [.string ⟨s.toArray⟩]
    | some (.struct fs), .agg ds => (expFields P (exp P n) fs.toList ds 0).bind fun l => if l.length = P.cellsOf t then some l else none
    | some (.array m e), .agg ds => if ds.length = m then (expElems (exp P n e) (P.cellsOf e) ds).bind fun l => if l.length = P.cellsOf t then some l else none else none
    | _, _ => none

section
variable {enc : TypeId × Value → H} {P : Program} {w : World} {base : Nat} {spare : Nat → Bool} {held : Bool}
theorem trod_struct {fuel : Nat} {t : TypeId} {fs : Array Field} {cs : List Value} {x : DataW H × List MemPlace} (ht : P.underlying t = some (.struct fs)) (h : DataW.trod enc P w base spare held fuel t cs = some x) :
    ∃ (xs : List (DataW H × List MemPlace)) (m : Nat), x.1 = .agg (xs.map (·.1)) ∧ cs.length = P.cellsOf t ∧ fs.toList.mapM (fun f => DataW.trod enc P w base spare held m f.type ((cs.drop f.offset).take (P.cellsOf f.type))) = some xs := by
  cases fuel with
  | zero => simp [DataW.trod] at h
  | succ m =>
    unfold DataW.trod at h
    rw [ht] at h
    split at h <;> simp_all
    obtain ⟨h1, xs, h2, rfl⟩ := h
    exact ⟨xs, rfl, m, h2⟩
theorem fields_eq (go : TypeId → DataW H → Option (List Value)) (rd : TypeId → List Value → Option (DataW H × List MemPlace))
    (hgo : ∀ t cs x l, rd t cs = some x → go t x.1 = some l → cs = l) (cs : List Value) :
    ∀ (fs : List Field) (xs : List (DataW H × List MemPlace)) (off : Nat) (l : List Value), fs.mapM (fun f => rd f.type ((cs.drop f.offset).take (P.cellsOf f.type))) = some xs →
      expFields P go fs (xs.map (·.1)) off = some l → (cs.drop off).take l.length = l
  | [], xs, off, l, h, he => by
    simp at h
    subst h
    simp [expFields] at he
    subst he
    rfl
  | f :: fs, xs, off, l, h, he => by
    rw [List.mapM_cons] at h
    simp only [Option.bind_eq_bind, Option.bind_eq_some_iff, Option.pure_def, Option.some.injEq] at h
    obtain ⟨y, hy, ys, hys, rfl⟩ := h
    simp only [List.map_cons, expFields] at he
    split at he
    case isFalse => cases he
    case isTrue ho =>
      simp only [Option.bind_eq_some_iff] at he
      obtain ⟨l1, h1, he⟩ := he
      split at he
      case isFalse => cases he
      case isTrue hl =>
        simp only [Option.map_eq_some_iff] at he
        obtain ⟨l2, h2, rfl⟩ := he
        have e1 := hgo _ _ _ _ hy h1
        rw [ho, ← hl] at e1
        have e2 := fields_eq go rd hgo cs fs ys (off + l1.length) l2 hys h2
        rw [List.length_append, List.take_add, e1, List.drop_drop, e2]
theorem elems_eq (go : DataW H → Option (List Value)) (rd : List Value → Option (DataW H × List MemPlace)) (size : Nat)
    (hgo : ∀ cs x l, rd cs = some x → go x.1 = some l → cs = l) (cs : List Value) :
    ∀ (xs : List (DataW H × List MemPlace)) (j : Nat) (l : List Value), (∀ i, i < xs.length → rd ((cs.drop ((j + i) * size)).take size) = xs[i]?) →
      expElems go size (xs.map (·.1)) = some l → (cs.drop (j * size)).take l.length = l
  | [], j, l, h, he => by
    simp [expElems] at he
    subst he
    rfl
  | x :: xs, j, l, h, he => by
    simp only [List.map_cons, expElems, Option.bind_eq_some_iff] at he
    obtain ⟨l1, h1, he⟩ := he
    split at he
    case isFalse => cases he
    case isTrue hl =>
      simp only [Option.map_eq_some_iff] at he
      obtain ⟨l2, h2, rfl⟩ := he
      have e0 := h 0 (by simp)
      simp only [Nat.add_zero, List.getElem?_cons_zero] at e0
      have e1 := hgo _ _ _ e0 h1
      have e2 := elems_eq go rd size hgo cs xs (j + 1) l2 (fun i hi => by
        have := h (i + 1) (by simp; omega)
        rw [show j + 1 + i = j + (i + 1) from by omega]
        simpa using this) h2
      rw [List.length_append, List.take_add, hl, e1, List.drop_drop, show j * size + size = (j + 1) * size from by rw [Nat.succ_mul], e2]
theorem cells_of_exp : ∀ (n fuel : Nat) (t : TypeId) (cs : List Value) (x : DataW H × List MemPlace) (l : List Value), DataW.trod enc P w base spare held fuel t cs = some x → exp P n t x.1 = some l → cs = l
  | 0, _, _, _, _, _, _, he => by simp [exp] at he
  | n + 1, fuel, t, cs, x, l, h, he => by
    unfold exp at he
    split at he
    · rename_i k k' i ht hd
      obtain ⟨m, rfl, hx, _⟩ := DataW.trod_int ht h
      rw [hx] at hd
      simp at hd
      obtain ⟨rfl, rfl⟩ := hd
      simpa using he
    · rename_i b ht hd
      obtain ⟨b', rfl, hx⟩ := DataW.trod_bool ht h
      rw [hx] at hd
      simp at hd
      subst hd
      simpa using he
    · rename_i b ht hd
      obtain ⟨b', rfl, hx, _⟩ := DataW.trod_string ht h
      rw [hx] at hd
      simp at hd
      subst hd
      simpa using he
    · rename_i fs ds ht hd
      obtain ⟨xs, m, hx, hl, hm⟩ := trod_struct ht h
      rw [hx] at hd
      simp only [DataW.agg.injEq] at hd
      subst hd
      simp only [Option.bind_eq_some_iff] at he
      obtain ⟨l1, h1, he⟩ := he
      split at he
      case isFalse => cases he
      case isTrue hl1 =>
        obtain rfl := Option.some.inj he
        have := fields_eq (exp P n) (DataW.trod enc P w base spare held m) (fun t cs x l => cells_of_exp n m t cs x l) cs fs.toList xs 0 l1 hm h1
        rw [List.drop_zero, List.take_of_length_le (by omega)] at this
        exact this
    · rename_i m e ds ht hd
      obtain ⟨xs, m', _, hx, hl, hxl, hel⟩ := DataW.trod_array ht h
      rw [hx] at hd
      simp only [DataW.agg.injEq] at hd
      subst hd
      split at he
      case isFalse => cases he
      case isTrue hn =>
        simp only [Option.bind_eq_some_iff] at he
        obtain ⟨l1, h1, he⟩ := he
        split at he
        case isFalse => cases he
        case isTrue hl1 =>
          obtain rfl := Option.some.inj he
          have := elems_eq (exp P n e) (DataW.trod enc P w base spare held m' e) (P.cellsOf e) (fun cs x l => cells_of_exp n m' e cs x l) cs xs 0 l1 (fun i hi => by rw [Nat.zero_add]; exact hel i (by omega)) h1
          rw [Nat.zero_mul, List.drop_zero, List.take_of_length_le (by omega)] at this
          exact this
    · cases he
end
/-- A listed variable's cells. -/
theorem laid_cell {P : Program} {laid : List (String × DataW Unit)} {w : World} (h : laidMet P laid w) {n : String} {d : DataW Unit} (hm : (n, d) ∈ laid) {g k : Nat} {t : TypeId} {l : List Value}
    (hg : P.globalNamed n = some g) (ht : (P.globals[g]?).map (·.type) = some t) (he : exp P k t d = some l) (i : Nat) : w.cell? ⟨g, i, none⟩ = l[i]? := by
  obtain ⟨ps, hv, h2⟩ := h
  clear h2
  induction laid generalizing ps with
  | nil => cases hm
  | cons y r ih =>
    obtain ⟨n', d'⟩ := y
    obtain ⟨g', t', cs, fuel, p, q, hg', ht', hw, htr, hr, _⟩ := hv
    rcases List.mem_cons.1 hm with hm | hm
    · obtain ⟨rfl, rfl⟩ := Prod.mk.inj hm
      obtain rfl := Option.some.inj (hg.symm.trans hg')
      obtain rfl := Option.some.inj (ht.symm.trans ht')
      have := cells_of_exp k fuel t cs.toList _ l htr he
      rw [World.var?_cell hg hw i, ← this]
      simp
    · exact ih hm q hr
end Go.Proofs.YtgmchiadphdlhaaDoor.LaidCells
