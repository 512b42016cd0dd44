/- Slices, indices, fields, conversions, literals. -/
import Derived.Test.YtgmchiadphdlhaaDoorAbsAop
namespace Go.Abs
set_option linter.unusedVariables false
set_option linter.unusedSimpArgs false
variable {P : Program} {G : Glob} {σ : Sig} {H : AHeap} {w : World}
def bnd (x : Option AV) (d : Nat) (K : Int → Prop) : Prop :=
  match x with
  | none => K d
  | some (.v (.int _ n)) => K n
  | _ => False
def BV (x : Option Value) (n : Int) (d : Nat) : Prop := (x = none ∧ n = d) ∨ ∃ k, x = some (.int k n)
theorem bnd_ok {o : Option Operand} {env : Operand → AV} {d : Nat} {K : Int → Prop} (h : bnd (o.map env) d K) : ∃ n, K n ∧ ∀ (σ : Sig) (w : World) (a : Act), (∀ x ∈ o, AR σ w (env x) (a.eval x)) → BV (o.map a.eval) n d := by
  cases o with
  | none => exact ⟨_, h, fun _ _ _ _ => .inl ⟨rfl, rfl⟩⟩
  | some x =>
    simp only [Option.map_some] at h ⊢
    cases hx : env x with
    | v y =>
      rw [hx] at h
      cases y with
      | int k n =>
        refine ⟨n, h, fun σ w a ha => .inr ⟨k, ?_⟩⟩
        have := ha x rfl
        rw [hx] at this
        show some (a.eval x) = _
        generalize a.eval x = ux at *
        cases this
        rfl
      | _ => exact h.elim
    | _ => rw [hx] at h; exact h.elim
theorem run_bound (k : IntKind) (i : Int) (y : Nat) (code : BoundsCode) (h0 : 0 ≤ i) (h1 : i ≤ y) : (Instr.sliceBound (.int k i) y code).run P w = .ok i.toNat w := by
  simp [Instr.sliceBound, asIntOf, h0, h1]
theorem run_bounds {isS : Bool} {len cap : Nat} {lo hi mx : Option Value} {l h m : Int} (hl : BV lo l 0) (hh : BV hi h len) (hm : BV mx m cap) (hmx : mx ≠ none → hi ≠ none) (h0 : 0 ≤ l) (h1 : l ≤ h) (h2 : h ≤ m) (h3 : m ≤ cap) :
    (Instr.sliceBounds isS len cap lo hi mx).run P w = .ok (l.toNat, h.toNat, m.toNat) w := by
  have b1 : ∀ k y code, l ≤ ((y : Nat) : Int) → (Instr.sliceBound (.int k l) y code).run P w = .ok l.toNat w := fun k y code hy => run_bound k l y code h0 hy
  have b2 : ∀ k y code, h ≤ ((y : Nat) : Int) → (Instr.sliceBound (.int k h) y code).run P w = .ok h.toNat w := fun k y code hy => run_bound k h y code (by omega) hy
  have b3 : ∀ k y code, m ≤ ((y : Nat) : Int) → (Instr.sliceBound (.int k m) y code).run P w = .ok m.toNat w := fun k y code hy => run_bound k m y code (by omega) hy
  have e1 : l ≤ ((h.toNat : Nat) : Int) := by omega
  have e2 : h ≤ ((m.toNat : Nat) : Int) := by omega
  rcases hm with ⟨rfl, rfl⟩ | ⟨km, rfl⟩
  · rcases hh with ⟨rfl, rfl⟩ | ⟨kh, rfl⟩
    · rcases hl with ⟨rfl, rfl⟩ | ⟨kl, rfl⟩
      · simp [Instr.sliceBounds]
      · simp [Instr.sliceBounds, b1 kl len _ (by omega)]
    · rcases hl with ⟨rfl, rfl⟩ | ⟨kl, rfl⟩
      · simp [Instr.sliceBounds, b2 kh cap _ (by omega)]
      · simp [Instr.sliceBounds, b2 kh cap _ (by omega), b1 kl _ _ e1]
  · rcases hh with ⟨rfl, rfl⟩ | ⟨kh, rfl⟩
    · exact absurd rfl (hmx (by simp))
    · rcases hl with ⟨rfl, rfl⟩ | ⟨kl, rfl⟩
      · simp [Instr.sliceBounds, b3 km cap _ (by omega), b2 kh _ _ e2]
      · simp [Instr.sliceBounds, b3 km cap _ (by omega), b2 kh _ _ e2, b1 kl _ _ e1]
def bnd3 (lo hi mx : Option AV) (len cap : Nat) (K : Nat → Nat → Nat → Prop) : Prop :=
  (mx.isSome = true → hi.isSome = true) ∧ bnd lo 0 fun l => bnd hi len fun h => bnd mx cap fun m => 0 ≤ l ∧ l ≤ h ∧ h ≤ m ∧ m ≤ cap ∧ K l.toNat h.toNat m.toNat
theorem bnd3_ok {lo hi mx : Option Operand} {env : Operand → AV} {len cap : Nat} {K : Nat → Nat → Nat → Prop} (h : bnd3 (lo.map env) (hi.map env) (mx.map env) len cap K) :
    ∃ l h m, K l h m ∧ l ≤ h ∧ h ≤ m ∧ m ≤ cap ∧ (mx = none → m = cap) ∧ ∀ (P : Program) (σ : Sig) (w w' : World) (a : Act) (isS : Bool) (cap' : Nat), (∀ x ∈ lo, AR σ w (env x) (a.eval x)) → (∀ x ∈ hi, AR σ w (env x) (a.eval x)) → (∀ x ∈ mx, AR σ w (env x) (a.eval x)) → cap ≤ cap' →
      (Instr.sliceBounds isS len cap' (lo.map a.eval) (hi.map a.eval) (mx.map a.eval)).run P w' = .ok (l, h, if mx.isSome then m else cap') w' := by
  obtain ⟨h0, h1⟩ := h
  obtain ⟨l, h1, c1⟩ := bnd_ok h1
  obtain ⟨h, h1, c2⟩ := bnd_ok h1
  obtain ⟨m, ⟨g1, g2, g3, g4, hK⟩, c3⟩ := bnd_ok h1
  cases mx with
  | none =>
    have hm : m = cap := by
      rcases c3 ⟨fun _ _ => none, fun _ => False⟩ default ⟨#[], []⟩ (fun _ h => by cases h) with ⟨_, h⟩ | ⟨_, h⟩
      · exact h
      · simp at h
    refine ⟨_, _, _, hK, by omega, by omega, by omega, fun _ => by omega, fun P σ w w' a isS cap' x1 x2 x3 hc => ?_⟩
    have := run_bounds (P := P) (w := w') (isS := isS) (cap := cap') (m := (cap' : Int)) (mx := none) (c1 σ w a x1) (c2 σ w a x2) (.inl ⟨rfl, rfl⟩) (fun hn => absurd rfl hn) g1 g2 (by omega) (Int.le_refl _)
    simpa using this
  | some mo =>
    refine ⟨_, _, _, hK, by omega, by omega, by omega, fun h => by simp at h, fun P σ w w' a isS cap' x1 x2 x3 hc => ?_⟩
    have hb : BV (some (a.eval mo)) m cap' := by
      rcases c3 σ w a x3 with ⟨h, _⟩ | h
      · simp at h
      · exact .inr h
    have := run_bounds (P := P) (w := w') (isS := isS) (c1 σ w a x1) (c2 σ w a x2) hb (fun hn => by
      cases hi with
      | none => simp at h0
      | some _ => simp) g1 g2 g3 (by omega)
    simpa using this
/-- 'x[lo:hi:mx]'. -/
def aSlice (P : Program) (H : AHeap) (t : TypeId) (x : AV) (lo hi mx : Option AV) (K : AV → Prop) : Prop :=
  match x with
  | .v (.string s) => P.underlying t = some .string ∧ mx = none ∧ bnd3 lo hi none s.size s.size fun l h _ => K (.v (.string (s.extract l h)))
  | .v (.slice none 0 0) => (match P.underlying t with | some (.slice e) => (tsz P e).isSome = true | _ => False) ∧ bnd3 lo hi mx 0 0 fun _ _ _ => K (.v (.slice none 0 0))
  | .sl b ver off len cap sz x => (match P.underlying t with | some (.slice e) => tsz P e = some sz | _ => False) ∧ bnd3 lo hi mx len cap fun l h m => K (.sl b ver (off + l * sz) (h - l) (m - l) sz (x || mx.isSome))
  | .vsl len cs cx => match P.underlying t with
    | some (.slice e) => match tsz P e with
      | some sz => cs.length = len * sz ∧ bnd3 lo hi mx len len fun l h m => K (.vsl (h - l) ((cs.drop (l * sz)).take ((h - l) * sz)) (if mx.isSome then some (m - l) else cx.map (· - l)))
      | none => False
    | _ => False
  | .ptr b ver off => match P.underlying t with
    | some (.array n e) => match tsz P e, H[b]? with
      | some sz, some k => k.live = true ∧ k.ver = ver ∧ off + n * sz ≤ k.cells.length ∧ bnd3 lo hi mx n n fun l h m => K (.sl b ver (off + l * sz) (h - l) (m - l) sz true)
      | _, _ => False
    | some (.pointer arr) => match P.underlying arr with
      | some (.array n e) => match tsz P e, H[b]? with
        | some sz, some k => k.live = true ∧ k.ver = ver ∧ off + n * sz ≤ k.cells.length ∧ bnd3 lo hi mx n n fun l h m => K (.sl b ver (off + l * sz) (h - l) (m - l) sz true)
        | _, _ => False
      | _ => False
    | _ => False
  | .vptr cs off => match P.underlying t with
    | some (.array n e) => match tsz P e with
      | some sz => off + n * sz ≤ cs.length ∧ bnd3 lo hi mx n n fun l h m => K (.vsl (h - l) ((cs.drop (off + l * sz)).take ((h - l) * sz)) (some (m - l)))
      | none => False
    | some (.pointer arr) => match P.underlying arr with
      | some (.array n e) => match tsz P e with
        | some sz => off + n * sz ≤ cs.length ∧ bnd3 lo hi mx n n fun l h m => K (.vsl (h - l) ((cs.drop (off + l * sz)).take ((h - l) * sz)) (some (m - l)))
        | none => False
      | _ => False
    | _ => False
  | _ => False
theorem ar_sl_cut {b ver off sz : Nat} {x : Bool} {l0 : Loc} (hρ : σ.ρ b ver = some l0) {l h m cap' m' : Nat} (hlh : l ≤ h) (hhm : h ≤ m) (hmc : m ≤ m') (hx : x = true → m' = m) (hm' : m' ≤ cap') (hlim : l0.base + off + cap' * sz ≤ l0.lim) :
    AR σ w (.sl b ver (off + l * sz) (h - l) (m - l) sz x) (.slice (if m' = l then some ⟨l0.B, l0.base + off, none⟩ else some ⟨l0.B, l0.base + off + l * sz, none⟩) (h - l) (m' - l)) := by
  by_cases e : m' = l
  · rw [if_pos e, show h - l = 0 from by omega, show m - l = 0 from by omega, show m' - l = 0 from by omega]
    exact .sl0 _
  · rw [if_neg e, Nat.add_assoc]
    refine .sl hρ (by omega) (fun hx' => by have := hx hx'; omega) ?_
    have h1 : (l + (m' - l)) * sz ≤ cap' * sz := Nat.mul_le_mul_right _ (by omega)
    rw [Nat.add_mul] at h1
    omega
theorem ar_vsl_cut {cs : List AV} {B o sz off : Nat} {cx : Option Nat} (hr : σ.ro B) (hm : Mem σ w B o cs) {l h m' : Nat} (hlh : l ≤ h) (hhm : h ≤ m') (hx : ∀ c, cx = some c → m' - l = c) (hlen : off + h * sz ≤ cs.length) :
    AR σ w (.vsl (h - l) ((cs.drop (off + l * sz)).take ((h - l) * sz)) cx) (.slice (if m' = l then some ⟨B, o + off, none⟩ else some ⟨B, o + off + l * sz, none⟩) (h - l) (m' - l)) := by
  have hmul : (h - l) * sz = h * sz - l * sz := Nat.sub_mul _ _ _
  by_cases e : m' = l
  · rw [if_pos e, show h - l = 0 from by omega, Nat.zero_mul, List.take_zero]
    exact .vsl0 _ _ hx
  · rw [if_neg e]
    have hle : l * sz ≤ h * sz := Nat.mul_le_mul_right _ hlh
    have hlt : ∀ j, j < ((cs.drop (off + l * sz)).take ((h - l) * sz)).length → j < (h - l) * sz ∧ off + l * sz + j < cs.length := fun j hj => by
      rw [List.length_take, List.length_drop] at hj
      omega
    refine .vsl B (o + off + l * sz) (m' - l) (fun j => (w.cell? ⟨B, o + off + l * sz + j, none⟩).getD undef) hr (fun j hj => ?_) (fun j hj => ?_) (by omega) hx
    · obtain ⟨h1, h2⟩ := hlt j hj
      obtain ⟨u, a1, a2⟩ := hm _ h2
      rw [show o + (off + l * sz + j) = o + off + l * sz + j from by omega] at a1
      rw [a1]
      rfl
    · obtain ⟨h1, h2⟩ := hlt j hj
      obtain ⟨u, a1, a2⟩ := hm _ h2
      rw [show o + (off + l * sz + j) = o + off + l * sz + j from by omega] at a1
      rw [List.getD_eq_getElem?_getD, List.getElem?_take, if_pos h1, List.getElem?_drop, ← List.getD_eq_getElem?_getD]
      show AR σ w _ ((w.cell? ⟨B, o + off + l * sz + j, none⟩).getD undef)
      rw [a1]
      exact a2
theorem run_sizeOf' {t : TypeId} {n : Nat} (h : tsz P t = some n) : (sizeOf t).run P w = .ok n w := by
  unfold tsz at h
  cases hi : P.info? t with
  | none => simp [hi] at h
  | some i =>
    simp only [hi, Option.map_some, Option.some.injEq] at h
    simp [sizeOf, typeInfo, hi, h]
theorem add_if (B o l sz m : Nat) : (if m = l then (⟨B, o, none⟩ : Addr) else (⟨B, o, none⟩ : Addr).add (l * sz)) = (if m = l then (⟨B, o, none⟩ : Addr) else ⟨B, o + l * sz, none⟩) := by rw [Addr.add_lit]
theorem aSlice_ok (G : Glob) {t : TypeId} {x : Operand} {lo hi mx : Option Operand} {env : Operand → AV} {K : AV → Prop} (h : aSlice P H t (env x) (lo.map env) (hi.map env) (mx.map env) K) :
    ∃ r, K r ∧ ∀ (σ : Sig) (w : World) (a : Act), Rel G σ H w → AR σ w (env x) (a.eval x) → (∀ y ∈ lo, AR σ w (env y) (a.eval y)) → (∀ y ∈ hi, AR σ w (env y) (a.eval y)) → (∀ y ∈ mx, AR σ w (env y) (a.eval y)) →
      ∃ u, (Instr.sliceAt t (a.eval x) (lo.map a.eval) (hi.map a.eval) (mx.map a.eval)).run P w = .ok u w ∧ AR σ w r u := by
  have hmx : ∀ m cap' : Nat, (if mx.isSome = true then m else cap') = if (mx.map env).isSome = true then m else cap' := fun m cap' => by cases mx <;> rfl
  cases hx : env x with
  | v y =>
    rw [hx] at h
    unfold aSlice at h
    split at h
    · rename_i s e
      cases e
      obtain ⟨ht, hmx, h⟩ := h
      have hmx' : mx = none := by cases mx <;> simp_all
      subst hmx'
      obtain ⟨l, hq, m, hK, h1, h2, h3, h4, hb⟩ := bnd3_ok (mx := none) h
      refine ⟨_, hK, fun σ w a r ha b1 b2 b3 => ?_⟩
      generalize a.eval x = ux at *
      cases ha
      have := hb P σ w w a false _ b1 b2 (fun _ h => by cases h) (Nat.le_refl _)
      simp only [Option.map_none] at this
      exact ⟨_, by simp [Instr.sliceAt, Instr.slice, run_underlying ht, this], .v _⟩
    · rename_i e
      cases e
      obtain ⟨ht, h⟩ := h
      obtain ⟨l, hq, m, hK, h1, h2, h3, h4, hb⟩ := bnd3_ok h
      refine ⟨_, hK, fun σ w a r ha b1 b2 b3 => ?_⟩
      generalize a.eval x = ux at *
      cases ha
      have := hb P σ w w a true _ b1 b2 b3 (Nat.le_refl _)
      cases hd : P.underlying t with
      | none => simp [hd] at ht
      | some d =>
        cases d <;> simp only [hd] at ht
        rename_i e
        cases hs : tsz P e with
        | none => simp [hs] at ht
        | some sz =>
          obtain rfl : m = 0 := by omega
          obtain rfl : hq = 0 := by omega
          obtain rfl : l = 0 := by omega
          simp only [ite_self] at this
          exact ⟨_, by simp [Instr.sliceAt, Instr.slice, run_underlying hd, this, run_sizeOf' hs], .v _⟩
    · rename_i e
      cases e
    · rename_i e
      cases e
    · rename_i e
      cases e
    · rename_i e
      cases e
    · exact h.elim
  | sl b ver off len cap sz xx =>
    rw [hx] at h
    obtain ⟨ht, h⟩ := h
    obtain ⟨l, hq, m, hK, h1, h2, h3, h4, hb⟩ := bnd3_ok h
    refine ⟨_, hK, fun σ w a r ha b1 b2 b3 => ?_⟩
    generalize a.eval x = ux at *
    cases hd : P.underlying t with
    | none => simp [hd] at ht
    | some d =>
      cases d <;> simp only [hd] at ht
      rename_i e
      have hs := run_sizeOf' (P := P) (w := w) ht
      cases ha with
      | @sl _ _ _ _ _ cap' _ _ l0 hρ g1 g2 g3 =>
        have := hb P σ w w a true cap' b1 b2 b3 g1
        refine ⟨.slice (if (if mx.isSome then m else cap') = l then some ⟨l0.B, l0.base + off, none⟩ else some ⟨l0.B, l0.base + off + l * sz, none⟩) (hq - l) ((if mx.isSome then m else cap') - l), ?_, ar_sl_cut (w := w) hρ h1 h2 ?_ ?_ ?_ g3⟩
        · simp only [Instr.sliceAt, Instr.slice, run_underlying hd, Sem.run_bind, Result.andThen_ok, this, hs, Option.map_some, Addr.add_lit, Sem.run_pure]
        · cases mx with
          | none => simp; have := h4 rfl; omega
          | some _ => simp
        · intro hxx
          cases mx with
          | none => simp at hxx ⊢; have := h4 rfl; have := g2 hxx; omega
          | some _ => simp
        · cases mx with
          | none => simp
          | some _ => simp; omega
      | sl0 A =>
        have := hb P σ w w a true 0 b1 b2 b3 (Nat.le_refl _)
        obtain rfl : m = 0 := by omega
        obtain rfl : hq = 0 := by omega
        obtain rfl : l = 0 := by omega
        simp only [ite_self] at this
        refine ⟨.slice A 0 0, ?_, ?_⟩
        · simp only [Instr.sliceAt, Instr.slice, run_underlying hd, Sem.run_bind, Result.andThen_ok, this, hs, Sem.run_pure, if_true, Nat.sub_zero]
        · exact .sl0 A
  | vsl len cs cx =>
    rw [hx] at h
    unfold aSlice at h
    cases hd : P.underlying t with
    | none => simp [hd] at h
    | some d =>
      cases d <;> simp only [hd] at h <;> try (exact h.elim)
      rename_i e
      cases hs : tsz P e with
      | none => simp [hs] at h
      | some sz =>
        simp only [hs] at h
        obtain ⟨hl, h⟩ := h
        obtain ⟨l, hq, m, hK, h1, h2, h3, h4, hb⟩ := bnd3_ok h
        refine ⟨_, hK, fun σ w a r ha b1 b2 b3 => ?_⟩
        generalize a.eval x = ux at *
        have hs' := run_sizeOf' (P := P) (w := w) hs
        cases ha with
        | @vsl _ _ _ B o c' uu hr hm ha hle hx' =>
          have := hb P σ w w a true c' b1 b2 b3 hle
          have hhl : hq * sz ≤ len * sz := Nat.mul_le_mul_right _ (by omega)
          refine ⟨.slice (if (if mx.isSome then m else c') = l then some ⟨B, o, none⟩ else some ⟨B, o + l * sz, none⟩) (hq - l) ((if mx.isSome then m else c') - l), ?_, ?_⟩
          · simp only [Instr.sliceAt, Instr.slice, run_underlying hd, Sem.run_bind, Result.andThen_ok, this, hs', Option.map_some, Addr.add_lit, Sem.run_pure]
          · have := ar_vsl_cut (w := w) (off := 0) (sz := sz) (m' := if mx.isSome then m else c') (cx := if (mx.map env).isSome then some (m - l) else cx.map (· - l)) hr (Mem.of_fun hm ha) h1 (by cases mx <;> simp <;> omega) (fun c hc => by
              cases mx with
              | none =>
                simp only [Option.map_none, Option.isSome_none, Bool.false_eq_true, if_false, Option.map_eq_some_iff] at hc ⊢
                obtain ⟨c0, e1, rfl⟩ := hc
                rw [hx' _ e1]
              | some _ => simpa using hc) (by omega)
            simpa using this
        | vsl0 A c' hx' =>
          have := hb P σ w w a true c' b1 b2 b3 (Nat.zero_le _)
          obtain rfl : m = 0 := by omega
          obtain rfl : hq = 0 := by omega
          obtain rfl : l = 0 := by omega
          refine ⟨.slice A 0 (if mx.isSome then 0 else c'), ?_, ?_⟩
          · simp only [Instr.sliceAt, Instr.slice, run_underlying hd, Sem.run_bind, Result.andThen_ok, this, hs', Sem.run_pure, Nat.sub_zero, Nat.zero_mul]
            congr 2
            cases A <;> simp [Addr.add]
          · simp only [List.drop_nil, List.take_nil]
            refine .vsl0 _ _ (fun c hc => ?_)
            cases mx with
            | none =>
              simp only [Option.map_none, Option.isSome_none, Bool.false_eq_true, if_false, Option.map_eq_some_iff] at hc ⊢
              obtain ⟨c0, e1, rfl⟩ := hc
              rw [hx' _ e1]
              rfl
            | some _ => simpa using hc
  | ptr b ver off =>
    rw [hx] at h
    unfold aSlice at h
    have fin : ∀ (n : Nat) (e : TypeId) (K : AV → Prop), (match tsz P e, H[b]? with | some sz, some k => k.live = true ∧ k.ver = ver ∧ off + n * sz ≤ k.cells.length ∧ bnd3 (lo.map env) (hi.map env) (mx.map env) n n fun l h m => K (.sl b ver (off + l * sz) (h - l) (m - l) sz true) | _, _ => False) →
        ∃ r, K r ∧ ∀ (σ : Sig) (w : World) (a : Act) (ad : Addr), Rel G σ H w → AR σ w (.ptr b ver off) (.pointer (some ad)) → (∀ y ∈ lo, AR σ w (env y) (a.eval y)) → (∀ y ∈ hi, AR σ w (env y) (a.eval y)) → (∀ y ∈ mx, AR σ w (env y) (a.eval y)) →
          ∃ u, (do let (l, h, m) ← Instr.sliceBounds false n n (lo.map a.eval) (hi.map a.eval) (mx.map a.eval); let size ← sizeOf e; pure (.slice (some (if m = l then ad else ad.add (l * size))) (h - l) (m - l)) : Sem Value).run P w = .ok u w ∧ AR σ w r u := by
      intro n e K h
      cases hs : tsz P e with
      | none => simp [hs] at h
      | some sz =>
        cases hk : H[b]? with
        | none => simp [hs, hk] at h
        | some k =>
          simp only [hs, hk] at h
          obtain ⟨hlv, rfl, hfit, h⟩ := h
          obtain ⟨l, hq, m, hK, h1, h2, h3, h4, hb⟩ := bnd3_ok h
          refine ⟨_, hK, fun σ w a ad r ha b1 b2 b3 => ?_⟩
          have hs' := run_sizeOf' (P := P) (w := w) hs
          cases ha with
          | @ptr _ _ _ l0 hρ =>
            obtain ⟨C, fr, d1, d2, d3, d4, d5⟩ := r.blk b k l0 hk hlv hρ
            have := hb P σ w w a false n b1 b2 b3 (Nat.le_refl _)
            have hmn : (if mx.isSome then m else n) = m := by cases mx with | none => simp [h4 rfl] | some _ => simp
            rw [hmn] at this
            refine ⟨.slice (if m = l then some ⟨l0.B, l0.base + off, none⟩ else some ⟨l0.B, l0.base + off + l * sz, none⟩) (hq - l) (m - l), ?_, ar_sl_cut (w := w) (cap' := n) hρ h1 h2 (Nat.le_refl _) (fun _ => rfl) h3 (by omega)⟩
            simp only [Sem.run_bind, Result.andThen_ok, this, hs', Addr.add_lit, Sem.run_pure]
            split <;> rfl
    cases hd : P.underlying t with
    | none => simp [hd] at h
    | some d =>
      cases d <;> simp only [hd] at h <;> try (exact h.elim)
      · rename_i arr
        cases hd2 : P.underlying arr with
        | none => simp [hd2] at h
        | some d2 =>
          cases d2 <;> simp only [hd2] at h <;> try (exact h.elim)
          rename_i n e
          obtain ⟨r, hK, hr⟩ := fin n e K h
          refine ⟨r, hK, fun σ w a rel ha b1 b2 b3 => ?_⟩
          generalize a.eval x = ux at *
          cases ha with
          | @ptr _ _ _ l0 hρ =>
            obtain ⟨u, e1, e2⟩ := hr σ w a _ rel (.ptr hρ) b1 b2 b3
            refine ⟨u, ?_, e2⟩
            simp only [Instr.sliceAt, Instr.slice, run_underlying hd, run_underlying hd2, asAddr, Sem.run_bind, Result.andThen_ok, Sem.run_pure]
            simpa only [Sem.run_bind, Sem.run_pure] using e1
      · rename_i n e
        obtain ⟨r, hK, hr⟩ := fin n e K h
        refine ⟨r, hK, fun σ w a rel ha b1 b2 b3 => ?_⟩
        generalize a.eval x = ux at *
        cases ha with
        | @ptr _ _ _ l0 hρ =>
          obtain ⟨u, e1, e2⟩ := hr σ w a _ rel (.ptr hρ) b1 b2 b3
          refine ⟨u, ?_, e2⟩
          simp only [Instr.sliceAt, run_underlying hd, Instr.sureAddr, Sem.run_bind, Result.andThen_ok, Sem.run_pure]
          simpa only [Sem.run_bind, Sem.run_pure] using e1
  | vptr cs off =>
    rw [hx] at h
    unfold aSlice at h
    have fin : ∀ (n : Nat) (e : TypeId) (K : AV → Prop), (match tsz P e with | some sz => off + n * sz ≤ cs.length ∧ bnd3 (lo.map env) (hi.map env) (mx.map env) n n fun l h m => K (.vsl (h - l) ((cs.drop (off + l * sz)).take ((h - l) * sz)) (some (m - l))) | none => False) →
        ∃ r, K r ∧ ∀ (σ : Sig) (w : World) (a : Act) (ad : Addr), Rel G σ H w → AR σ w (.vptr cs off) (.pointer (some ad)) → (∀ y ∈ lo, AR σ w (env y) (a.eval y)) → (∀ y ∈ hi, AR σ w (env y) (a.eval y)) → (∀ y ∈ mx, AR σ w (env y) (a.eval y)) →
          ∃ u, (do let (l, h, m) ← Instr.sliceBounds false n n (lo.map a.eval) (hi.map a.eval) (mx.map a.eval); let size ← sizeOf e; pure (.slice (some (if m = l then ad else ad.add (l * size))) (h - l) (m - l)) : Sem Value).run P w = .ok u w ∧ AR σ w r u := by
      intro n e K h
      cases hs : tsz P e with
      | none => simp [hs] at h
      | some sz =>
        simp only [hs] at h
        obtain ⟨hfit, h⟩ := h
        obtain ⟨l, hq, m, hK, h1, h2, h3, h4, hb⟩ := bnd3_ok h
        refine ⟨_, hK, fun σ w a ad r ha b1 b2 b3 => ?_⟩
        have hs' := run_sizeOf' (P := P) (w := w) hs
        cases ha with
        | vptr B o uu hr hm ha =>
          have := hb P σ w w a false n b1 b2 b3 (Nat.le_refl _)
          have hmn : (if mx.isSome then m else n) = m := by cases mx with | none => simp [h4 rfl] | some _ => simp
          rw [hmn] at this
          have hhl : hq * sz ≤ n * sz := Nat.mul_le_mul_right _ (by omega)
          refine ⟨.slice (if m = l then some ⟨B, o + off, none⟩ else some ⟨B, o + off + l * sz, none⟩) (hq - l) (m - l), ?_, ar_vsl_cut (w := w) hr (Mem.of_fun hm ha) h1 h2 (fun c hc => by simpa using hc) (by omega)⟩
          simp only [Sem.run_bind, Result.andThen_ok, this, hs', Addr.add_lit, Sem.run_pure]
          split <;> rfl
    cases hd : P.underlying t with
    | none => simp [hd] at h
    | some d =>
      cases d <;> simp only [hd] at h <;> try (exact h.elim)
      · rename_i arr
        cases hd2 : P.underlying arr with
        | none => simp [hd2] at h
        | some d2 =>
          cases d2 <;> simp only [hd2] at h <;> try (exact h.elim)
          rename_i n e
          obtain ⟨r, hK, hr⟩ := fin n e K h
          refine ⟨r, hK, fun σ w a rel ha b1 b2 b3 => ?_⟩
          generalize a.eval x = ux at *
          cases ha with
          | vptr B o uu hr' hm ha =>
            obtain ⟨u, e1, e2⟩ := hr σ w a _ rel (.vptr B o uu hr' hm ha) b1 b2 b3
            refine ⟨u, ?_, e2⟩
            simp only [Instr.sliceAt, Instr.slice, run_underlying hd, run_underlying hd2, asAddr, Sem.run_bind, Result.andThen_ok, Sem.run_pure]
            simpa only [Sem.run_bind, Sem.run_pure] using e1
      · rename_i n e
        obtain ⟨r, hK, hr⟩ := fin n e K h
        refine ⟨r, hK, fun σ w a rel ha b1 b2 b3 => ?_⟩
        generalize a.eval x = ux at *
        cases ha with
        | vptr B o uu hr' hm ha =>
          obtain ⟨u, e1, e2⟩ := hr σ w a _ rel (.vptr B o uu hr' hm ha) b1 b2 b3
          refine ⟨u, ?_, e2⟩
          simp only [Instr.sliceAt, run_underlying hd, Instr.sureAddr, Sem.run_bind, Result.andThen_ok, Sem.run_pure]
          simpa only [Sem.run_bind, Sem.run_pure] using e1
  | _ => rw [hx] at h; exact h.elim
end Go.Abs
