/- Places, conversions, literals, builtins. -/
import Derived.Test.YtgmchiadphdlhaaDoorAbsOper
namespace Go.Abs
set_option linter.unusedVariables false
set_option linter.unusedSimpArgs false
variable {P : Program} {G : Glob} {σ : Sig} {H : AHeap} {w : World}
/-- '&x[i]'. -/
def aIdxAddr (P : Program) (t : TypeId) (x i : AV) (K : AV → Prop) : Prop :=
  match i with
  | .v (.int _ i) => match P.underlying t with
    | some (.array n e) => match tsz P e with
      | some sz => 0 ≤ i ∧ i < n ∧ (match x with
        | .ptr b ver off => K (.ptr b ver (off + i.toNat * sz))
        | .vptr cs off => K (.vptr cs (off + i.toNat * sz))
        | _ => False)
      | none => False
    | some (.slice e) => match tsz P e with
      | some sz => match x with
        | .sl b ver off len _ sz' _ => sz' = sz ∧ 0 ≤ i ∧ i < len ∧ K (.ptr b ver (off + i.toNat * sz))
        | .vsl len cs _ => 0 ≤ i ∧ i < len ∧ K (.vptr cs (i.toNat * sz))
        | _ => False
      | none => False
    | _ => False
  | _ => False
theorem aIdxAddr_ok {t : TypeId} {x i : AV} {K : AV → Prop} (h : aIdxAddr P t x i K) : ∃ r, K r ∧ ∀ (σ : Sig) (w : World) (ux ui : Value), AR σ w x ux → AR σ w i ui → ∃ u, (Instr.indexAt t ux ui).run P w = .ok u w ∧ AR σ w r u := by
  cases i with
  | v y =>
    cases y with
    | int k i =>
      unfold aIdxAddr at h
      cases hd : P.underlying t with
      | none => simp [hd] at h
      | some d =>
        cases d <;> simp only [hd] at h <;> try (exact h.elim)
        · rename_i e
          cases hs : tsz P e with
          | none => simp [hs] at h
          | some sz =>
            simp only [hs] at h
            cases x <;> simp only at h <;> try (exact h.elim)
            · rename_i b ver off len cap sz' xx
              obtain ⟨rfl, h1, h2, hK⟩ := h
              refine ⟨_, hK, fun σ w ux ui hx hi => ?_⟩
              cases hi
              cases hx with
              | sl hρ g1 g2 g3 =>
                refine ⟨_, ?_, .ptr hρ⟩
                simp only [Instr.indexAt, asIntOf, run_underlying hd, Sem.run_bind, Sem.run_pure, Result.andThen_ok, Bool.and_false, h1, h2, and_self, if_true, run_sizeOf' hs, Addr.add_lit, Nat.add_assoc]
              | sl0 A => omega
            · rename_i len cs cx
              obtain ⟨h1, h2, hK⟩ := h
              refine ⟨_, hK, fun σ w ux ui hx hi => ?_⟩
              cases hi
              cases hx with
              | vsl B o c' uu hr hm ha hle hx' =>
                refine ⟨_, ?_, .vptr B o uu hr hm ha⟩
                simp only [Instr.indexAt, asIntOf, run_underlying hd, Sem.run_bind, Sem.run_pure, Result.andThen_ok, Bool.and_false, h1, h2, and_self, if_true, run_sizeOf' hs, Addr.add_lit]
              | vsl0 A c' hx' => omega
        · rename_i n e
          cases hs : tsz P e with
          | none => simp [hs] at h
          | some sz =>
            simp only [hs] at h
            obtain ⟨h1, h2, h⟩ := h
            cases x <;> simp only at h <;> try (exact h.elim)
            · refine ⟨_, h, fun σ w ux ui hx hi => ?_⟩
              cases hi
              cases hx with
              | ptr hρ =>
                refine ⟨_, ?_, .ptr hρ⟩
                simp only [Instr.indexAt, Instr.sureAddr, asIntOf, run_underlying hd, Sem.run_bind, Sem.run_pure, Result.andThen_ok, h1, h2, and_self, if_true, run_sizeOf' hs, Addr.add_lit, Nat.add_assoc]
            · refine ⟨_, h, fun σ w ux ui hx hi => ?_⟩
              cases hi
              cases hx with
              | vptr B o uu hr hm ha =>
                refine ⟨_, ?_, .vptr B o uu hr hm ha⟩
                simp only [Instr.indexAt, Instr.sureAddr, asIntOf, run_underlying hd, Sem.run_bind, Sem.run_pure, Result.andThen_ok, h1, h2, and_self, if_true, run_sizeOf' hs, Addr.add_lit, Nat.add_assoc]
    | _ => exact h.elim
  | _ => exact h.elim
/-- '&x.f'. -/
def aFldAddr (P : Program) (t : TypeId) (x : AV) (f : Nat) (K : AV → Prop) : Prop :=
  match P.underlying t with
  | some (.struct fs) => match fs[f]? with
    | some fd => (match tsz P fd.type with | some n => n ≠ 0 | none => False) ∧ (match x with
      | .ptr b ver off => K (.ptr b ver (off + fd.offset))
      | .vptr cs off => K (.vptr cs (off + fd.offset))
      | _ => False)
    | none => False
  | _ => False
theorem aFldAddr_ok {t : TypeId} {x : AV} {f : Nat} {K : AV → Prop} (h : aFldAddr P t x f K) : ∃ r, K r ∧ ∀ (σ : Sig) (w : World) (ux : Value), AR σ w x ux → ∃ u, (Instr.fieldAt t ux f).run P w = .ok u w ∧ AR σ w r u := by
  unfold aFldAddr at h
  cases hd : P.underlying t with
  | none => simp [hd] at h
  | some d =>
    cases d <;> simp only [hd] at h <;> try (exact h.elim)
    rename_i fs
    cases hf : fs[f]? with
    | none => simp [hf] at h
    | some fd =>
      simp only [hf] at h
      obtain ⟨hn, h⟩ := h
      cases hs : tsz P fd.type with
      | none => simp [hs] at hn
      | some n =>
        simp only [hs] at hn
        cases x <;> simp only at h <;> try (exact h.elim)
        · refine ⟨_, h, fun σ w ux hx => ?_⟩
          cases hx with
          | ptr hρ =>
            refine ⟨_, ?_, .ptr hρ⟩
            simp only [Instr.fieldAt, run_underlying hd, hf, Instr.sureAddr, fieldPlace, Sem.run_bind, Sem.run_pure, Result.andThen_ok, run_sizeOf' hs, hn, if_false, Addr.add_lit, Nat.add_assoc]
        · refine ⟨_, h, fun σ w ux hx => ?_⟩
          cases hx with
          | vptr B o uu hr hm ha =>
            refine ⟨_, ?_, .vptr B o uu hr hm ha⟩
            simp only [Instr.fieldAt, run_underlying hd, hf, Instr.sureAddr, fieldPlace, Sem.run_bind, Sem.run_pure, Result.andThen_ok, run_sizeOf' hs, hn, if_false, Addr.add_lit, Nat.add_assoc]
/-- 'x.f' of a value. -/
def aFld (P : Program) (t : TypeId) (x : AV) (f : Nat) (K : AV → Prop) : Prop :=
  match P.underlying t, x with
  | some (.struct fs), .agg cs => match fs[f]? with
    | some fd => rdP P fd.type cs fd.offset K
    | none => False
  | _, _ => False
theorem aFld_ok {t : TypeId} {x : AV} {f : Nat} {K : AV → Prop} (h : aFld P t x f K) (ux : Value) (hx : AR σ w x ux) : ∃ r u, K r ∧ (Instr.field t ux f).run P w = .ok u w ∧ AR σ w r u := by
  unfold aFld at h
  split at h
  · rename_i fs cs hd
    cases hf : fs[f]? with
    | none => simp [hf] at h
    | some fd =>
      simp only [hf] at h
      cases hx with
      | agg us hl ha =>
        obtain ⟨r, u, h1, h2, h3⟩ := ar_getD hl ha h
        exact ⟨r, u, h1, by simp only [Instr.field, run_underlying hd, hf, asAgg, Sem.run_bind, Sem.run_pure, Result.andThen_ok, h2], h3⟩
  · exact h.elim
/-- 'x[i]' of a value. -/
def aIdx (P : Program) (t : TypeId) (x i : AV) (K : AV → Prop) : Prop :=
  match P.underlying t, x, i with
  | some (.array n e), .agg cs, .v (.int _ i) => match tsz P e with
    | some sz => 0 ≤ i ∧ i < n ∧ rdP P e cs (i.toNat * sz) K
    | none => False
  | some .string, .v (.string s), .v (.int _ i) => 0 ≤ i ∧ i < s.size ∧ K (.v (.int .u8 ((s.data.toList.getD i.toNat 0).toNat)))
  | _, _, _ => False
theorem aIdx_ok {t : TypeId} {x i : AV} {K : AV → Prop} (h : aIdx P t x i K) (ux ui : Value) (hx : AR σ w x ux) (hi : AR σ w i ui) : ∃ r u, K r ∧ (Instr.index t ux ui).run P w = .ok u w ∧ AR σ w r u := by
  unfold aIdx at h
  split at h
  · rename_i n e cs k i hd
    cases hs : tsz P e with
    | none => simp [hs] at h
    | some sz =>
      simp only [hs] at h
      obtain ⟨h1, h2, h⟩ := h
      cases hi
      cases hx with
      | agg us hl ha =>
        obtain ⟨r, u, a1, a2, a3⟩ := ar_getD hl ha h
        exact ⟨r, u, a1, by simp only [Instr.index, asIntOf, run_underlying hd, Sem.run_bind, Sem.run_pure, Result.andThen_ok, h1, h2, and_self, if_true, run_sizeOf' hs, a2], a3⟩
  · rename_i s k i hd
    obtain ⟨h1, h2, h⟩ := h
    cases hi
    cases hx
    refine ⟨_, _, h, ?_, .v _⟩
    have hlt : i.toNat < s.size := by omega
    have hb : s[i.toNat]? = some (s.data.toList.getD i.toNat 0) := by
      have h2 : i.toNat < s.data.size := hlt
      rw [getElem?_pos s i.toNat hlt]
      simp only [List.getD_eq_getElem?_getD, Array.getElem?_toList, Array.getElem?_eq_getElem h2, Option.getD_some]
      rfl
    simp only [Instr.index, asIntOf, run_underlying hd, Sem.run_bind, Sem.run_pure, Result.andThen_ok, h1, if_true, hb]
  · exact h.elim
/-- A component. -/
def aExt (x : AV) (i : Nat) (K : AV → Prop) : Prop :=
  match x with
  | .tup cs => i < cs.length ∧ K (cs.getD i .any)
  | _ => False
theorem aExt_ok {x : AV} {i : Nat} {K : AV → Prop} (h : aExt x i K) (ux : Value) (hx : AR σ w x ux) : ∃ r u, K r ∧ (Instr.extract ux i).run P w = .ok u w ∧ AR σ w r u := by
  unfold aExt at h
  split at h
  · obtain ⟨h1, h2⟩ := h
    cases hx with
    | tup us hl ha =>
      refine ⟨_, _, h2, ?_, ha i h1⟩
      simp only [Instr.extract, getD_lt (show i < us.size by omega), Sem.run_pure]
  · exact h.elim
/-- A builtin's number. -/
def aLen (P : Program) (t : TypeId) (x : AV) (K : AV → Prop) : Prop :=
  match P.underlying t with
  | some .string => match x with | .v (.string s) => K (.v (.int .i64 s.size)) | _ => False
  | some (.array n _) => K (.v (.int .i64 n))
  | some (.pointer arr) => match P.underlying arr with | some (.array n _) => K (.v (.int .i64 n)) | _ => False
  | some (.slice _) => match x with
    | .v (.slice none 0 0) => K (.v (.int .i64 0))
    | .sl _ _ _ len _ _ _ => K (.v (.int .i64 len))
    | .vsl len _ _ => K (.v (.int .i64 len))
    | .bsl _ _ len => K (.v (.int .i64 len))
    | _ => False
  | _ => False
theorem aLen_ok {t ty : TypeId} {ts : Array TypeId} (hts : ts[0]? = some t) {x : AV} {K : AV → Prop} (h : aLen P t x K) : ∃ r, K r ∧ ∀ (σ : Sig) (w : World) (ux : Value), AR σ w x ux → ∃ u, (Builtin.len_ ts ty #[ux]).run P w = .ok u w ∧ AR σ w r u := by
  unfold aLen at h
  cases hd : P.underlying t with
  | none => simp [hd] at h
  | some d =>
    cases d <;> simp only [hd] at h <;> try (exact h.elim)
    · cases x <;> (try simp only at h) <;> try (exact h.elim)
      rename_i y
      cases y <;> (try simp only at h) <;> try (exact h.elim)
      refine ⟨_, h, fun σ w ux hx => ?_⟩
      cases hx
      exact ⟨_, by simp [Builtin.len_, hts, run_underlying hd, goInt], .v _⟩
    · rename_i arr
      cases hd2 : P.underlying arr with
      | none => simp [hd2] at h
      | some d2 =>
        cases d2 <;> simp only [hd2] at h <;> try (exact h.elim)
        refine ⟨_, h, fun σ w ux hx => ?_⟩
        exact ⟨_, by simp [Builtin.len_, hts, run_underlying hd, run_underlying hd2, goInt], .v _⟩
    · cases x <;> (try simp only at h) <;> try (exact h.elim)
      · rename_i y
        split at h
        · rename_i e
          cases e
          refine ⟨_, h, fun σ w ux hx => ?_⟩
          cases hx
          exact ⟨_, by simp [Builtin.len_, hts, run_underlying hd, goInt], .v _⟩
        · rename_i e
          cases e
        · rename_i e
          cases e
        · rename_i e
          cases e
        · exact h.elim
      · refine ⟨_, h, fun σ w ux hx => ?_⟩
        cases hx <;> exact ⟨_, by simp [Builtin.len_, hts, run_underlying hd, goInt], .v _⟩
      · refine ⟨_, h, fun σ w ux hx => ?_⟩
        cases hx <;> exact ⟨_, by simp [Builtin.len_, hts, run_underlying hd, goInt], .v _⟩
      · refine ⟨_, h, fun σ w ux hx => ?_⟩
        cases hx <;> exact ⟨_, by simp [Builtin.len_, hts, run_underlying hd, goInt], .v _⟩
    · refine ⟨_, h, fun σ w ux hx => ?_⟩
      exact ⟨_, by simp [Builtin.len_, hts, run_underlying hd, goInt], .v _⟩
/-- 'cap'. -/
def aCap (P : Program) (t : TypeId) (x : AV) (K : AV → Prop) : Prop :=
  match P.underlying t with
  | some (.array n _) => K (.v (.int .i64 n))
  | some (.slice _) => match x with
    | .v (.slice none 0 0) => K (.v (.int .i64 0))
    | .sl _ _ _ _ cap _ true => K (.v (.int .i64 cap))
    | .vsl _ _ (some c) => K (.v (.int .i64 c))
    | _ => False
  | _ => False
theorem aCap_ok {t ty : TypeId} {ts : Array TypeId} (hts : ts[0]? = some t) {x : AV} {K : AV → Prop} (h : aCap P t x K) : ∃ r, K r ∧ ∀ (σ : Sig) (w : World) (ux : Value), AR σ w x ux → ∃ u, (Builtin.cap_ ts ty #[ux]).run P w = .ok u w ∧ AR σ w r u := by
  unfold aCap at h
  cases hd : P.underlying t with
  | none => simp [hd] at h
  | some d =>
    cases d <;> simp only [hd] at h <;> try (exact h.elim)
    · split at h
      · refine ⟨_, h, fun σ w ux hx => ?_⟩
        cases hx
        exact ⟨_, by simp [Builtin.cap_, hts, run_underlying hd, goInt], .v _⟩
      · refine ⟨_, h, fun σ w ux hx => ?_⟩
        cases hx with
        | sl h1 h2 h3 h4 =>
          cases h3 rfl
          exact ⟨_, by simp [Builtin.cap_, hts, run_underlying hd, goInt], .v _⟩
        | sl0 A => exact ⟨_, by simp [Builtin.cap_, hts, run_underlying hd, goInt], .v _⟩
      · refine ⟨_, h, fun σ w ux hx => ?_⟩
        cases hx with
        | vsl B o c' u h1 h2 h3 h4 h5 =>
          cases h5 _ rfl
          exact ⟨_, by simp [Builtin.cap_, hts, run_underlying hd, goInt], .v _⟩
        | vsl0 A c' h5 =>
          cases h5 _ rfl
          exact ⟨_, by simp [Builtin.cap_, hts, run_underlying hd, goInt], .v _⟩
      · exact h.elim
    · refine ⟨_, h, fun σ w ux hx => ?_⟩
      exact ⟨_, by simp [Builtin.cap_, hts, run_underlying hd, goInt], .v _⟩
/-- 'copy'. -/
def aCopy (H : AHeap) (dst : AV) (n : Nat) (cs : List AV) (K : AV → AHeap → Prop) : Prop :=
  match dst with
  | .sl b ver off len _ sz _ => n ≤ len ∧ (match H[b]? with
    | some k => k.live = true ∧ k.ver = ver ∧ off + cs.length ≤ k.cells.length ∧ cs.all AV.one = true ∧ K (.v (.int .i64 n)) (H.set b { k with cells := splice k.cells off cs })
    | none => False)
  | _ => False
theorem copy_ok (G : Glob) {dT sT ty e : TypeId} {i : TypeInfo} (ht : P.underlying dT = some (.slice e)) (hi : P.info? e = some i) {dst src : AV} {K : AV → AHeap → Prop} (hc : acont H i.size src fun n cs => aCopy H dst n cs K) :
    ∃ r H', K r H' ∧ ∀ (σ : Sig) (w : World) (ud us : Value), Rel G σ H w → AR σ w dst ud → AR σ w src us → ∃ v w', (Builtin.copy_ #[dT, sT] ty #[ud, us]).run P w = .ok v w' ∧ Res G false σ H w r H' v w' := by
  obtain ⟨n, cs, hs, hcl, hx⟩ := acont_ok (P := P) G hc
  cases dst <;> try (exact hs.elim)
  rename_i b ver off len cap sz xx
  obtain ⟨hn, hk⟩ := hs
  cases hk' : H[b]? with
  | none => simp [hk'] at hk
  | some k =>
    simp only [hk'] at hk
    obtain ⟨hlv, rfl, hfit, hone, hK⟩ := hk
    refine ⟨_, _, hK, fun σ w ud us r hd hsr => ?_⟩
    obtain ⟨news, n1, n2, n3, n4⟩ := hx σ w us r hsr
    have hmin : Nat.min n len = n := Nat.min_eq_left hn
    have hou : ∀ v ∈ news.toList, v.oneCell' = true := ones_of (σ := σ) (w := w) hone (by simp [n1, hcl]) (fun j hj => by
      have := n2 j (by omega)
      simpa [List.getD_eq_getElem?_getD] using this)
    cases hd with
    | @sl _ _ _ _ _ cap' _ _ l h h1 h2 h3 =>
      obtain ⟨w', s1, s2, s3, s4⟩ := r.store (P := P) hk' hlv h off cs news.toList (by simp [n1, hcl]) hfit hou (fun j hj => by
        have := n2 j (by omega)
        simpa [List.getD_eq_getElem?_getD] using this)
      refine ⟨_, w', ?_, Res.of (.v _) s2 s3 (fun h => by cases h)⟩
      simp only [Builtin.copy_, List.getElem?_toArray, List.getElem?_cons_zero, List.getElem?_cons_succ, run_underlying ht, sizeOf, typeInfo, hi, Sem.run_bind, Sem.run_pure, Result.andThen_ok, n3 w, hmin, run_program, n4 w rfl, s1, goInt]
    | sl0 A =>
      obtain rfl : n = 0 := by omega
      have hnn := size_zero n1
      subst hnn
      have hcn := len_zero hcl
      subst hcn
      rw [splice_nil, set_same hk']
      refine ⟨_, w, ?_, Res.same r (.v _)⟩
      cases A <;> simp only [Builtin.copy_, List.getElem?_toArray, List.getElem?_cons_zero, List.getElem?_cons_succ, run_underlying ht, sizeOf, typeInfo, hi, Sem.run_bind, Sem.run_pure, Result.andThen_ok, n3 w, hmin, run_program, n4 w rfl, goInt, storeCells]
end Go.Abs
