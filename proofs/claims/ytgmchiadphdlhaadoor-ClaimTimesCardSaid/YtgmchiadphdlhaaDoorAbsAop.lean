/- What each operation comes to, as a predicate; that it does. -/
import Derived.Test.YtgmchiadphdlhaaDoorAbsApp2
import Derived.Laws.Small
import Derived.Laws.Pointers
import Derived.WalkSpells
import Derived.LaidEqlPtr
import Derived.WideLaws
namespace Go.Abs
set_option linter.unusedVariables false
set_option linter.unusedSimpArgs false
variable {P : Program} {G : Glob} {σ : Sig} {H : AHeap} {w : World}
def toAV : Value → AV
  | .agg us => .agg (us.toList.map .v)
  | c => .v c
theorem ar_agg_v (us : Array Value) : AR σ w (.agg (us.toList.map .v)) (.agg us) := by
  refine .agg us (by simp) (fun j hj => ?_)
  have hj' : j < us.size := by simpa using hj
  simp only [List.getD_eq_getElem?_getD, List.getElem?_map, Array.getElem?_toList, Array.getElem?_eq_getElem hj', Option.map_some, Option.getD_some, Array.getD_eq_getD_getElem?]
  exact .v _
theorem toAV_ar (c : Value) : AR σ w (toAV c) c := by
  cases c <;> first | exact ar_agg_v _ | exact .v _
def aenv (G : Glob) (t : List AV) : Operand → AV
  | .tmp i => t.getD i .any
  | .const c => toAV c
  | .global g => G g
  | .func f => .fn (.func f) []
/-- Bits, as the machine reckons them. -/
def ibits (op : BinOp) (k : IntKind) (x y : Int) : Int :=
  match op with
  | .and => k.wrap (BitVec.ofInt k.bits x &&& BitVec.ofInt k.bits y).toNat
  | .or => k.wrap (BitVec.ofInt k.bits x ||| BitVec.ofInt k.bits y).toNat
  | .xor => k.wrap (BitVec.ofInt k.bits x ^^^ BitVec.ofInt k.bits y).toNat
  | _ => k.wrap (BitVec.ofInt k.bits x &&& ~~~BitVec.ofInt k.bits y).toNat
def shlI (k : IntKind) (x : Int) (n : Int) : Int := k.wrap (x * 2 ^ (min n.toNat k.bits))
def shrI (k : IntKind) (x : Int) (n : Int) : Int := x.fdiv (2 ^ (min n.toNat k.bits))
def bAV (neg : Bool) : Option Bool → AV
  | some b => .v (.bool (if neg then !b else b))
  | none => .ub
/-- Slices and pointers, compared; none: either may be. -/
def aEq0 (P : Program) (t : TypeId) (x y : AV) (K : Option Bool → Prop) : Prop :=
  match y with
  | .v (.slice none 0 0) => (match P.underlying t with
    | some (.slice _) => (match x with
      | .vsl len _ _ => K (if 0 < len then some false else none)
      | .sl _ _ _ len _ _ _ => K (if 0 < len then some false else none)
      | .v (.slice none 0 0) => K (some true)
      | _ => False)
    | _ => False)
  | .v (.pointer none) => (match P.underlying t with
    | some (.pointer _) => (match x with
      | .ptr _ _ _ => K (some false)
      | .vptr _ _ => K (some false)
      | .v (.pointer none) => K (some true)
      | _ => False)
    | _ => False)
  | .ptr b v o => (match P.underlying t with
    | some (.pointer e) => (match x with
      | .ptr b' v' o' => (tsz P e).isSome = true ∧ b' = b ∧ v' = v ∧ o' = o ∧ K (some true)
      | _ => False)
    | _ => False)
  | _ => False
theorem aEq0_ok {t : TypeId} {x y : AV} {K : Option Bool → Prop} (h : aEq0 P t x y K) :
    ∃ r, K r ∧ ∀ (σ : Sig) (w : World) (op : BinOp) (X Y : Operand) (ux uy : Value), AR σ w x ux → AR σ w y uy → eqGuard op t X Y ux uy = pure () ∧ ∃ b, (binOp .eql t ux uy).run P w = .ok (.bool b) w ∧ (binOp .neq t ux uy).run P w = .ok (.bool (!b)) w ∧ ∀ c, r = some c → b = c := by
  have snil : ∀ (e : TypeId), P.underlying t = some (.slice e) → ∀ (w : World) (A : Option Addr) (n c : Nat), (binOp .eql t (.slice A n c) (.slice none 0 0)).run P w = .ok (.bool A.isNone) w ∧ (binOp .neq t (.slice A n c) (.slice none 0 0)).run P w = .ok (.bool (!A.isNone)) w := fun e he w A n c => by
    refine ⟨?_, run_neq_slice_nil_any w t e A n c 0 0 he⟩
    simp only [binOp]
    simp [Op.equal, Op.maxDepth, Lib.run_equalIn_slice_nil w 9999 t e A n c 0 0 he]
  unfold aEq0 at h
  split at h
  · cases hd : P.underlying t with
    | none => simp [hd] at h
    | some d =>
      cases d <;> simp only [hd] at h <;> try (exact h.elim)
      rename_i e
      split at h
      · rename_i len cs cx
        refine ⟨_, h, fun σ w op X Y ux uy hx hy => ?_⟩
        cases hy
        cases hx with
        | vsl B o c' uu hr hm ha hl hx' => exact ⟨eqGuard_at_slice op t X Y _ _ _ _, _, (snil e hd w _ _ _).1, (snil e hd w _ _ _).2, fun c hc => by split at hc <;> cases hc; rfl⟩
        | vsl0 A c' hx' => exact ⟨eqGuard_at_slice op t X Y _ _ _ _, _, (snil e hd w _ _ _).1, (snil e hd w _ _ _).2, fun c hc => by simp at hc⟩
      · rename_i b ver off len cap sz xx
        refine ⟨_, h, fun σ w op X Y ux uy hx hy => ?_⟩
        cases hy
        cases hx with
        | sl hρ g1 g2 g3 => exact ⟨eqGuard_at_slice op t X Y _ _ _ _, _, (snil e hd w _ _ _).1, (snil e hd w _ _ _).2, fun c hc => by split at hc <;> cases hc; rfl⟩
        | sl0 A => exact ⟨eqGuard_at_slice op t X Y _ _ _ _, _, (snil e hd w _ _ _).1, (snil e hd w _ _ _).2, fun c hc => by simp at hc⟩
      · refine ⟨_, h, fun σ w op X Y ux uy hx hy => ?_⟩
        cases hy
        cases hx
        exact ⟨eqGuard_at_slice op t X Y _ _ _ _, _, (snil e hd w _ _ _).1, (snil e hd w _ _ _).2, fun c hc => by cases hc; rfl⟩
      · exact h.elim
  · cases hd : P.underlying t with
    | none => simp [hd] at h
    | some d =>
      cases d <;> simp only [hd] at h <;> try (exact h.elim)
      rename_i e
      have hp : P.underlying t = some (.pointer (P.pointee t)) := by simp [Program.pointee, hd]
      split at h
      · refine ⟨_, h, fun σ w op X Y ux uy hx hy => ?_⟩
        cases hy
        cases hx
        exact ⟨eqGuard_at_pointer op t X Y _ _, _, run_eql_pointer_nil w t _ hp, run_neq_pointer_nil w t _ hp, fun c hc => by cases hc; rfl⟩
      · refine ⟨_, h, fun σ w op X Y ux uy hx hy => ?_⟩
        cases hy
        cases hx
        exact ⟨eqGuard_at_pointer op t X Y _ _, _, run_eql_pointer_nil w t _ hp, run_neq_pointer_nil w t _ hp, fun c hc => by cases hc; rfl⟩
      · refine ⟨_, h, fun σ w op X Y ux uy hx hy => ?_⟩
        cases hy
        cases hx
        exact ⟨eqGuard_at_pointer op t X Y _ _, _, run_eql_pointer_nil w t _ hp, run_neq_pointer_nil w t _ hp, fun c hc => by cases hc; rfl⟩
      · exact h.elim
  · rename_i b v o
    cases hd : P.underlying t with
    | none => simp [hd] at h
    | some d =>
      cases d <;> simp only [hd] at h <;> try (exact h.elim)
      rename_i e
      split at h
      · obtain ⟨ht, rfl, rfl, rfl, hK⟩ := h
        obtain ⟨n, hn⟩ := Option.isSome_iff_exists.1 ht
        unfold tsz at hn
        cases hi : P.info? e with
        | none => simp [hi] at hn
        | some i =>
          refine ⟨_, hK, fun σ w op X Y ux uy hx hy => ?_⟩
          cases hx with
          | ptr h1 =>
            cases hy with
            | ptr h2 =>
              rw [h1] at h2
              cases h2
              refine ⟨eqGuard_at_pointer op t X Y _ _, true, run_eql_ptr_same w _ hd hi, ?_, fun c hc => by cases hc; rfl⟩
              have h : ∀ (d : Nat) (a : Addr), (Op.equalIn (d + 1) t (.pointer (some a)) (.pointer (some a))).run P w = .ok true w := fun d a => by
                simp [Op.equalIn, run_underlying hd, sizeOf, typeInfo, hi, run_sameAddr_same]
              simp only [binOp]
              simp [Op.equal, Op.maxDepth, h 9999]
      · exact h.elim
  · exact h.elim
def aBin (P : Program) (op : BinOp) (t : TypeId) (x y : AV) (K : AV → Prop) : Prop :=
  match x, y with
  | .v (.int k a), .v (.int k' b) =>
    match op with
    | .shl => 0 ≤ b ∧ K (.v (.int k (shlI k a b)))
    | .shr => 0 ≤ b ∧ K (.v (.int k (shrI k a b)))
    | .add => k = k' ∧ K (.v (.int k (k.wrap (a + b))))
    | .sub => k = k' ∧ K (.v (.int k (k.wrap (a - b))))
    | .mul => k = k' ∧ K (.v (.int k (k.wrap (a * b))))
    | .quo => k = k' ∧ b ≠ 0 ∧ K (.v (.int k (k.wrap (a.tdiv b))))
    | .rem => k = k' ∧ b ≠ 0 ∧ K (.v (.int k (a.tmod b)))
    | .and => k = k' ∧ K (.v (.int k (ibits .and k a b)))
    | .or => k = k' ∧ K (.v (.int k (ibits .or k a b)))
    | .xor => k = k' ∧ K (.v (.int k (ibits .xor k a b)))
    | .andNot => k = k' ∧ K (.v (.int k (ibits .andNot k a b)))
    | .eql => k = k' ∧ K (.v (.bool (a == b)))
    | .neq => k = k' ∧ K (.v (.bool (a != b)))
    | .lss => k = k' ∧ K (.v (.bool (decide (a < b))))
    | .leq => k = k' ∧ K (.v (.bool (decide (a ≤ b))))
    | .gtr => k = k' ∧ K (.v (.bool (decide (a > b))))
    | .geq => k = k' ∧ K (.v (.bool (decide (a ≥ b))))
  | .v (.string a), .v (.string b) =>
    match op with
    | .add => a.size + b.size ≤ 9223372036854775807 ∧ K (.v (.string (a ++ b)))
    | .eql => K (.v (.bool (a.toList == b.toList)))
    | .neq => K (.v (.bool (!(a.toList == b.toList))))
    | .lss => K (.v (.bool (Op.bytesLess a.toList b.toList)))
    | .leq => K (.v (.bool (Op.bytesLess a.toList b.toList || a.toList == b.toList)))
    | .gtr => K (.v (.bool (!(Op.bytesLess a.toList b.toList || a.toList == b.toList))))
    | .geq => K (.v (.bool (!Op.bytesLess a.toList b.toList)))
    | _ => False
  | .v (.bool a), .v (.bool b) => P.underlying t = some .bool ∧
    match op with
    | .eql => K (.v (.bool (a == b)))
    | .neq => K (.v (.bool (!(a == b))))
    | _ => False
  | x, y => match op with
    | .eql => aEq0 P t x y fun r => K (bAV false r)
    | .neq => aEq0 P t x y fun r => K (bAV true r)
    | _ => False
theorem aBin_ok {op : BinOp} {t : TypeId} {x y : AV} {K : AV → Prop} (h : aBin P op t x y K) :
    ∃ r, K r ∧ ∀ (σ : Sig) (w : World) (X Y : Operand) (ux uy : Value), AR σ w x ux → AR σ w y uy → ∃ u, (do eqGuard op t X Y ux uy; binOp op t ux uy : Sem Value).run P w = .ok u w ∧ AR σ w r u := by
  unfold aBin at h
  split at h
  · rename_i k a k' b
    have eg : ∀ (X Y : Operand) (v : Value), eqGuard op t X Y (.int k a) v = pure () := fun X Y v => eqGuard_at_int op t X Y _ k a
    cases op
    case shl =>
      obtain ⟨h1, h2⟩ := h
      refine ⟨_, h2, fun σ w X Y ux uy hx hy => ?_⟩
      cases hx; cases hy
      exact ⟨_, by simp [eg, binOp, Op.shift, show ¬ b < 0 by omega, shlI], .v _⟩
    case shr =>
      obtain ⟨h1, h2⟩ := h
      refine ⟨_, h2, fun σ w X Y ux uy hx hy => ?_⟩
      cases hx; cases hy
      exact ⟨_, by simp [eg, binOp, Op.shift, show ¬ b < 0 by omega, shrI], .v _⟩
    case quo =>
      obtain ⟨rfl, h1, h2⟩ := h
      refine ⟨_, h2, fun σ w X Y ux uy hx hy => ?_⟩
      cases hx; cases hy
      exact ⟨_, by simp [eg, binOp, Op.intDiv, h1], .v _⟩
    case rem =>
      obtain ⟨rfl, h1, h2⟩ := h
      refine ⟨_, h2, fun σ w X Y ux uy hx hy => ?_⟩
      cases hx; cases hy
      exact ⟨_, by simp [eg, binOp, Op.intDiv, h1], .v _⟩
    all_goals
      obtain ⟨rfl, h2⟩ := h
      refine ⟨_, h2, fun σ w X Y ux uy hx hy => ?_⟩
      cases hx; cases hy
      exact ⟨_, by simp [eg, binOp, Op.intArith, Op.intBits, Op.intCmp, ibits], .v _⟩
  · rename_i a b
    have eg : ∀ (X Y : Operand) (v : Value), eqGuard op t X Y (.string a) v = pure () := fun X Y v => eqGuard_at_string op t X Y _ a
    cases op
    case add =>
      obtain ⟨h1, h2⟩ := h
      refine ⟨_, h2, fun σ w X Y ux uy hx hy => ?_⟩
      cases hx; cases hy
      exact ⟨_, by simp [eg, binOp, Op.stringOp, show ¬ (9223372036854775807 < (a.size : Int) + b.size) by omega], .v _⟩
    all_goals first
      | exact h.elim
      | (refine ⟨_, h, fun σ w X Y ux uy hx hy => ?_⟩
         cases hx; cases hy
         exact ⟨_, by simp [eg, binOp, Op.stringOp], .v _⟩)
  · rename_i a b
    have eg : ∀ (X Y : Operand) (v : Value), eqGuard op t X Y (.bool a) v = pure () := fun X Y v => eqGuard_at_bool op t X Y _ a
    obtain ⟨ht, h⟩ := h
    cases op
    case eql =>
      refine ⟨_, h, fun σ w X Y ux uy hx hy => ?_⟩
      cases hx; cases hy
      exact ⟨_, by simp only [eg, Sem.run_bind, Sem.run_pure, Result.andThen_ok, run_eql_bool w t a b ht], .v _⟩
    case neq =>
      refine ⟨_, h, fun σ w X Y ux uy hx hy => ?_⟩
      cases hx; cases hy
      exact ⟨_, by simp only [eg, Sem.run_bind, Sem.run_pure, Result.andThen_ok, run_neq_bool w t a b ht], .v _⟩
    all_goals exact h.elim
  · cases op <;> simp only at h <;> try (exact h.elim)
    · obtain ⟨r, hK, hr⟩ := aEq0_ok h
      refine ⟨_, hK, fun σ w X Y ux uy hx hy => ?_⟩
      obtain ⟨e0, b, e1, e2, e3⟩ := hr σ w .eql X Y ux uy hx hy
      refine ⟨.bool b, by rw [e0]; simpa using e1, ?_⟩
      cases r with
      | none => exact .ub b
      | some c => rw [e3 c rfl]; exact .v _
    · obtain ⟨r, hK, hr⟩ := aEq0_ok h
      refine ⟨_, hK, fun σ w X Y ux uy hx hy => ?_⟩
      obtain ⟨e0, b, e1, e2, e3⟩ := hr σ w .neq X Y ux uy hx hy
      refine ⟨.bool (!b), by rw [e0]; simpa using e2, ?_⟩
      cases r with
      | none => exact .ub _
      | some c => rw [e3 c rfl]; exact .v _
/-- A value of an interface's type, compared with nil. -/
def aNilI (P : Program) (op : BinOp) (t : TypeId) (x y : AV) (K : AV → Prop) : Prop :=
  P.underlying t = some (.interface (P.methodsAt t)) ∧ (match op, x, y with
    | .eql, .v .nilIface, .v .nilIface => K (.v (.bool true))
    | .neq, .v .nilIface, .v .nilIface => K (.v (.bool false))
    | .eql, .ifc _ _, .v .nilIface => K (.v (.bool false))
    | .neq, .ifc _ _, .v .nilIface => K (.v (.bool true))
    | _, _, _ => False)
def aBinO (P : Program) (op : BinOp) (t : TypeId) (y : Operand) (ex ey : AV) (K : AV → Prop) : Prop :=
  match y with
  | .const .nilIface => aNilI P op t ex ey K
  | _ => aBin P op t ex ey K
section
variable {op : BinOp} {t : TypeId} {ex ey : AV} {K : AV → Prop}
@[go_sem] theorem aBinO_tmp (i : Tmp) : aBinO P op t (.tmp i) ex ey K = aBin P op t ex ey K := rfl
@[go_sem] theorem aBinO_int (k : IntKind) (n : Int) : aBinO P op t (.const (.int k n)) ex ey K = aBin P op t ex ey K := rfl
@[go_sem] theorem aBinO_string (s : ByteArray) : aBinO P op t (.const (.string s)) ex ey K = aBin P op t ex ey K := rfl
@[go_sem] theorem aBinO_bool (b : Bool) : aBinO P op t (.const (.bool b)) ex ey K = aBin P op t ex ey K := rfl
@[go_sem] theorem aBinO_pointer (a : Option Addr) : aBinO P op t (.const (.pointer a)) ex ey K = aBin P op t ex ey K := rfl
@[go_sem] theorem aBinO_slice (a : Option Addr) (n c : Nat) : aBinO P op t (.const (.slice a n c)) ex ey K = aBin P op t ex ey K := rfl
@[go_sem] theorem aBinO_nil : aBinO P op t (.const .nilIface) ex ey K = aNilI P op t ex ey K := rfl
end
theorem aBinO_ok {op : BinOp} {t : TypeId} {y : Operand} {ex ey : AV} {K : AV → Prop} (X : Operand) (h : aBinO P op t y ex ey K) :
    ∃ r, K r ∧ ∀ (σ : Sig) (w : World) (ux uy : Value), AR σ w ex ux → AR σ w ey uy → ∃ u, (do eqGuard op t X y ux uy; binOp op t ux uy : Sem Value).run P w = .ok u w ∧ AR σ w r u := by
  unfold aBinO at h
  split at h
  · obtain ⟨ht, h⟩ := h
    have e1 : ∀ w, (Op.equal t .nilIface .nilIface).run P w = .ok true w := fun w => run_equal_nil_nil w t ht
    have e2 : ∀ w u x, (Op.equal t (.iface u x) .nilIface).run P w = .ok false w := fun w u x => run_equal_held_nil w t u x ht
    split at h
    · refine ⟨_, h, fun σ w ux uy hx hy => ?_⟩
      cases hx; cases hy
      exact ⟨.bool true, by rw [eqGuard_nil_constR]; simp [binOp, e1], .v _⟩
    · refine ⟨_, h, fun σ w ux uy hx hy => ?_⟩
      cases hx; cases hy
      exact ⟨.bool false, by rw [eqGuard_nil_constR]; simp [binOp, e1], .v _⟩
    · refine ⟨_, h, fun σ w ux uy hx hy => ?_⟩
      cases hy
      cases hx with
      | ifc hi => exact ⟨.bool false, by simp [eqGuard, binOp, e2], .v _⟩
    · refine ⟨_, h, fun σ w ux uy hx hy => ?_⟩
      cases hy
      cases hx with
      | ifc hi => exact ⟨.bool true, by simp [eqGuard, binOp, e2], .v _⟩
    · exact h.elim
  · obtain ⟨r, hK, hr⟩ := aBin_ok h
    exact ⟨r, hK, fun σ w ux uy hx hy => hr σ w X y ux uy hx hy⟩
def aUn (op : UnOp) (x : AV) (K : AV → Prop) : Prop :=
  match op, x with
  | .neg, .v (.int k n) => K (.v (.int k (k.wrap (0 - n))))
  | .xor, .v (.int k n) => K (.v (.int k (ibits .xor k (if k.signed then -1 else k.max) n)))
  | .not, .v (.bool b) => K (.v (.bool (!b)))
  | .not, .ub => K .ub
  | _, _ => False
theorem aUn_ok {op : UnOp} {x : AV} {K : AV → Prop} (h : aUn op x K) : ∃ r, K r ∧ ∀ (σ : Sig) (w : World) (ux : Value), AR σ w x ux → ∃ u, (Op.unary op ux).run P w = .ok u w ∧ AR σ w r u := by
  unfold aUn at h
  split at h
  · refine ⟨_, h, fun σ w ux hx => ?_⟩
    cases hx
    exact ⟨_, by simp [Op.unary, Op.intArith], .v _⟩
  · refine ⟨_, h, fun σ w ux hx => ?_⟩
    cases hx
    exact ⟨_, by simp [Op.unary, Op.intBits, ibits], .v _⟩
  · refine ⟨_, h, fun σ w ux hx => ?_⟩
    cases hx
    exact ⟨_, by simp [Op.unary], .v _⟩
  · refine ⟨_, h, fun σ w ux hx => ?_⟩
    cases hx with
    | ub b => exact ⟨.bool (!b), by simp [Op.unary], .ub _⟩
  · exact h.elim
/-- A part of a value. -/
def aPart (P : Program) (t : TypeId) (cs : List AV) (off : Nat) (K : AV → Prop) : Prop := rdP P t cs off K
theorem ar_getD {cs : List AV} {us : Array Value} (hl : us.size = cs.length) (ha : ∀ j, j < cs.length → AR σ w (cs.getD j .any) (us.getD j undef)) {off : Nat} {t : TypeId} {K : AV → Prop} (h : rdP P t cs off K) :
    ∃ r u, K r ∧ (part t us off).run P w = .ok u w ∧ AR σ w r u := by
  unfold rdP at h
  have rows : ∀ d, P.underlying t = some d → (match d with | .struct _ | .array _ _ => true | _ => false) = true → (match tsz P t with | some n => off + n ≤ cs.length ∧ K (.agg ((cs.drop off).take n)) | none => False) →
      ∃ r u, K r ∧ (part t us off).run P w = .ok u w ∧ AR σ w r u := by
    intro d hd hf hr
    unfold tsz at hr
    cases hi : P.info? t with
    | none => simp [hi] at hr
    | some i =>
      simp only [hi, Option.map_some] at hr
      refine ⟨_, .agg (us.extract off (off + i.size)), hr.2, ?_, .agg _ (by simp; omega) (fun j hj => ?_)⟩
      · cases d <;> first | (cases hf; done) | simp [part, isAgg, run_underlying hd, sizeOf, typeInfo, hi]
      · rw [List.length_take, List.length_drop] at hj
        have := ha (off + j) (by omega)
        rw [List.getD_eq_getElem?_getD, List.getElem?_take, if_pos (by omega), List.getElem?_drop, ← List.getD_eq_getElem?_getD]
        have e : (us.extract off (off + i.size)).getD j undef = us.getD (off + j) undef := by
          simp only [Array.getD_eq_getD_getElem?, Array.getElem?_extract]
          rw [if_pos (by omega)]
        rw [e]
        exact this
  have plain : ∀ d, P.underlying t = some d → (match d with | .struct _ | .array _ _ => true | _ => false) = false → off < cs.length ∧ K (cs.getD off .any) →
      ∃ r u, K r ∧ (part t us off).run P w = .ok u w ∧ AR σ w r u := by
    intro d hd hf ⟨h1, h2⟩
    have h3 : us[off]? = some (us.getD off undef) := getD_lt (by omega)
    refine ⟨_, us.getD off undef, h2, ?_, ha off h1⟩
    cases d <;> first | (cases hf; done) | simp only [part, isAgg, run_underlying hd, Sem.run_bind, Sem.run_pure, Result.andThen_ok, h3, Bool.false_eq_true, if_false]
  cases hd : P.underlying t with
  | none => simp [hd] at h
  | some d =>
    cases d <;> simp only [hd] at h <;> first | exact rows _ hd rfl h | exact plain _ hd rfl h
end Go.Abs
