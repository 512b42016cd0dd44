/- What a call comes to, out of its body; calls that lean on little memory, anywhere. -/
import Derived.Test.YtgmchiadphdlhaaDoorAbsAvc
namespace Go.Abs
set_option linter.unusedVariables false
set_option linter.unusedSimpArgs false
variable {P : Program} {G : Glob} {σ : Sig} {H : AHeap} {w : World}
def aret1 (P : Program) (t : List AV) (H : AHeap) (x : ResultVar) (K : AV → Prop) : Prop :=
  match x with
  | .tmp s => K (t.getD s .any)
  | .cell p ty => aLoad P H ty (t.getD p .any) K
def aretL (P : Program) (t : List AV) (H : AHeap) : List ResultVar → (List AV → Prop) → Prop
  | [], K => K []
  | x :: xs, K => aret1 P t H x fun r => aretL P t H xs fun rs => K (r :: rs)
def aret (P : Program) (t : List AV) (H : AHeap) (xs : List ResultVar) (K : AV → Prop) : Prop :=
  aretL P t H xs fun rs => match rs with
    | [r] => K r
    | rs => K (.tup rs)
def res1 (tmps : Array Value) : ResultVar → Sem Value
  | .tmp t => pure (tmps.getD t undef)
  | .cell a t => do loadVar t (← asAddr (tmps.getD a undef))
theorem aret1_ok {t : List AV} {x : ResultVar} {K : AV → Prop} {a : Act} (s : Sim G σ t H a w) (h : aret1 P t H x K) : ∃ r u, K r ∧ (res1 a.tmps x).run P w = .ok u w ∧ AR σ w r u := by
  cases x with
  | tmp i => exact ⟨_, _, h, rfl, s.env (.tmp i)⟩
  | cell p ty =>
    have hp : AR σ w (t.getD p .any) (a.tmps.getD p undef) := s.env (.tmp p)
    obtain ⟨r, hK, hr⟩ := aLoad_ok (P := P) G h
    obtain ⟨u, h1, h2⟩ := hr σ w _ s.rel hp
    refine ⟨r, u, hK, ?_, h2⟩
    replace h : aLoad P H ty (t.getD p .any) K := h
    unfold aLoad at h
    cases hv : t.getD p .any <;> rw [hv] at h hp <;> try (exact h.elim)
    all_goals
      show (asAddr (a.tmps.getD p undef) >>= fun x => loadVar ty x).run P w = _
      generalize a.tmps.getD p undef = up at *
      cases hp
      simp only [asAddr, Sem.run_bind, Sem.run_pure, Result.andThen_ok]
      simpa only [Instr.loadAt, Instr.sureAddr, Sem.run_bind, Sem.run_pure, Result.andThen_ok] using h1
theorem aretL_ok {t : List AV} {a : Act} (s : Sim G σ t H a w) : ∀ {xs : List ResultVar} {K : List AV → Prop}, aretL P t H xs K → ∃ (rs : List AV) (us : List Value), K rs ∧ (xs.mapM (res1 a.tmps)).run P w = .ok us w ∧ us.length = rs.length ∧ ∀ j, j < rs.length → AR σ w (rs.getD j .any) (us.getD j undef)
  | [], K, h => ⟨[], [], h, by simp, rfl, fun j hj => by simp at hj⟩
  | x :: xs, K, h => by
    obtain ⟨r, u, h, h1, h2⟩ := aret1_ok s h
    obtain ⟨rs, us, hK, h3, h4, h5⟩ := aretL_ok s h
    refine ⟨r :: rs, u :: us, hK, ?_, by simp [h4], fun j hj => ?_⟩
    · simp [List.mapM_cons, h1, h3]
    · cases j with
      | zero => simpa using h2
      | succ j => simpa using h5 j (by simpa using hj)
theorem aret_ok {t : List AV} {a : Act} (s : Sim G σ t H a w) {fn : Func} {K : AV → Prop} (h : aret P t H fn.results.toList K) : ∃ r u, K r ∧ (results fn a.tmps).run P w = .ok u w ∧ AR σ w r u := by
  obtain ⟨rs, us, hK, h1, h2, h3⟩ := aretL_ok s h
  have hrun : (results fn a.tmps).run P w = .ok (if h : us.toArray.size = 1 then us.toArray[0] else .tuple us.toArray) w := by
    have e : (fn.results.mapM (res1 a.tmps)).run P w = .ok us.toArray w := by
      rw [Array.mapM_eq_mapM_toList]
      simp [h1]
    unfold results
    have e2 : (fn.results.mapM fun x => match x with | .tmp t => pure (a.tmps.getD t undef) | .cell p t => do loadVar t (← asAddr (a.tmps.getD p undef)) : Sem (Array Value)) = fn.results.mapM (res1 a.tmps) := by
      congr 1
    rw [Sem.run_bind]
    show ((fn.results.mapM fun x => match x with | .tmp t => pure (a.tmps.getD t undef) | .cell p t => do loadVar t (← asAddr (a.tmps.getD p undef)) : Sem (Array Value)).run P w).andThen _ = _
    rw [e2, e]
    simp only [Result.andThen_ok, Sem.run_pure]
  match rs, us, h2, hK, h3, hrun with
  | [], [], _, hK, h3, hrun => exact ⟨_, _, hK, hrun, .tup #[] rfl (fun j hj => by simp at hj)⟩
  | [r], [u], _, hK, h3, hrun => exact ⟨r, u, hK, by rw [hrun]; rfl, by simpa using h3 0 (by simp)⟩
  | r :: r2 :: rs, u :: u2 :: us, h2, hK, h3, hrun =>
    refine ⟨_, .tuple (u :: u2 :: us).toArray, hK, by rw [hrun]; simp, .tup _ (by simpa using h2) (fun j hj => ?_)⟩
    have := h3 j hj
    simpa [List.getD_eq_getElem?_getD] using this
  | [], _ :: _, h2, _, _, _ => simp at h2
  | [_], [], h2, _, _, _ => simp at h2
  | [_], _ :: _ :: _, h2, _, _, _ => simp at h2
  | _ :: _ :: _, [], h2, _, _, _ => simp at h2
  | _ :: _ :: _, [_], h2, _, _, _ => simp at h2
/-- What was written may be left to be read. -/
inductive View (lo : Nat) (H : AHeap) : AV → AV → Prop
  | nr {x : AV} (h : NR x) : View lo H x x
  | keep {b ver off len cap sz : Nat} {x : Bool} (hb : b < lo) : View lo H (.sl b ver off len cap sz x) (.sl b ver off len cap sz x)
  | sl {b ver off len cap sz : Nat} {x : Bool} {k : Blk} (hb : lo ≤ b) (hk : H[b]? = some k) (hl : k.live = true) (hv : k.ver = ver) (hc : len ≤ cap) (hf : off + len * sz ≤ k.cells.length) (hn : ∀ c ∈ k.cells, NR c) :
      View lo H (.sl b ver off len cap sz x) (.vsl len ((k.cells.drop off).take (len * sz)) none)
  | nil : View lo H (.v (.slice none 0 0)) (.vsl 0 [] none)
  | agg {xs ys : List AV} (hl : xs.length = ys.length) (h : ∀ j, j < xs.length → View lo H (xs.getD j .any) (ys.getD j .any)) : View lo H (.agg xs) (.agg ys)
  | tup {xs ys : List AV} (hl : xs.length = ys.length) (h : ∀ j, j < xs.length → View lo H (xs.getD j .any) (ys.getD j .any)) : View lo H (.tup xs) (.tup ys)
def ImgFrom (σ : Sig) (H : AHeap) (lo B : Nat) : Prop := ∃ b k l, lo ≤ b ∧ H[b]? = some k ∧ k.live = true ∧ σ.ρ b k.ver = some l ∧ l.B = B
theorem View.ok (r : Rel G σ H w) {lo : Nat} {x y : AV} (h : View lo H x y) : ∀ u, AR σ w x u → AR ⟨(rs σ lo).ρ, fun B => σ.ro B ∨ ImgFrom σ H lo B⟩ w y u := by
  have hm : ∀ x u, AR ⟨fun _ _ => none, σ.ro⟩ w x u → AR ⟨(rs σ lo).ρ, fun B => σ.ro B ∨ ImgFrom σ H lo B⟩ w x u := fun x u h =>
    AR.mono (σ := ⟨fun _ _ => none, σ.ro⟩) (σ' := ⟨(rs σ lo).ρ, fun B => σ.ro B ∨ ImgFrom σ H lo B⟩) (fun _ _ _ h => by cases h) (fun _ h => Or.inl h) (fun _ _ => rfl) h
  induction h with
  | nr h => exact fun u hu => hm _ _ (h σ w u hu)
  | @keep b ver off len cap sz xx hb =>
    intro u hu
    cases hu with
    | sl hρ h1 h2 h3 => exact .sl (rs_of hb hρ) h1 h2 h3
    | sl0 A => exact .sl0 A
  | @sl b ver off len cap sz xx k hb hk hl hv hc hf hn =>
    intro u hu
    subst hv
    cases hu with
    | @sl _ _ _ _ _ cap' _ _ l hρ h1 h2 h3 =>
      have hmem := r.mem hk hl hρ
      have hlt : ∀ j, j < ((k.cells.drop off).take (len * sz)).length → j < len * sz ∧ off + j < k.cells.length := fun j hj => by
        rw [List.length_take, List.length_drop] at hj
        omega
      refine AR.vsl (σ := ⟨(rs σ lo).ρ, fun B => σ.ro B ∨ ImgFrom σ H lo B⟩) l.B (l.base + off) cap' (fun j => (w.cell? ⟨l.B, l.base + off + j, none⟩).getD undef) (Or.inr ⟨b, k, l, hb, hk, hl, hρ, rfl⟩) (fun j hj => ?_) (fun j hj => ?_) (Nat.le_trans hc h1) (fun c hc => by cases hc)
      · obtain ⟨a1, a2⟩ := hlt j hj
        obtain ⟨v, e1, e2⟩ := hmem _ a2
        rw [← Nat.add_assoc] at e1
        rw [e1]
        rfl
      · obtain ⟨a1, a2⟩ := hlt j hj
        obtain ⟨v, e1, e2⟩ := hmem _ a2
        rw [← Nat.add_assoc] at e1
        rw [List.getD_eq_getElem?_getD, List.getElem?_take, if_pos a1, List.getElem?_drop, ← List.getD_eq_getElem?_getD]
        show AR _ w _ ((w.cell? ⟨l.B, l.base + off + j, none⟩).getD undef)
        rw [e1]
        exact hm _ _ (hn _ (by simp [List.getD_eq_getElem?_getD, a2]) σ w v e2)
    | sl0 A =>
      rw [Nat.zero_mul, List.take_zero]
      exact .vsl0 _ _ (fun c hc => by cases hc)
  | nil =>
    intro u hu
    cases hu
    exact .vsl0 _ _ (fun c hc => by cases hc)
  | agg hl h ih =>
    intro u hu
    cases hu with
    | agg us h1 h2 => exact .agg us (h1.trans hl) (fun j hj => ih j (by omega) _ (h2 j (by omega)))
  | tup hl h ih =>
    intro u hu
    cases hu with
    | tup us h1 h2 => exact .tup us (h1.trans hl) (fun j hj => ih j (by omega) _ (h2 j (by omega)))
/-- All that is known of variables has no address of a block that may be written. -/
def GN (G : Glob) : Prop := ∀ g, NR (G g)
theorem NR.to {x : AV} (hx : NR x) {σ σ' : Sig} {w : World} {u : Value} (hro : ∀ B, σ.ro B → σ'.ro B) (h : AR σ w x u) : AR σ' w x u :=
  AR.mono (σ := ⟨fun _ _ => none, σ.ro⟩) (σ' := σ') (fun _ _ _ h => by cases h) hro (fun _ _ => rfl) (hx σ w u h)
theorem NR.toW {x : AV} (hx : NR x) {σ σ' : Sig} {w w' : World} {u : Value} (hro : ∀ B, σ.ro B → σ'.ro B) (hw : ∀ B, σ.ro B → w'.heap[B]? = w.heap[B]?) (h : AR σ w x u) : AR σ' w' x u :=
  AR.mono (σ := ⟨fun _ _ => none, σ.ro⟩) (σ' := σ') (fun _ _ _ h => by cases h) hro hw (hx σ w u h)
/-- What a body came to, cut down to the blocks that were there and what is returned. -/
theorem Res.cut (hG : GN G) {σ0 : Sig} {H0 : AHeap} {w0 : World} (r0 : Rel G σ0 H0 w0) (r : Rel G σ H w) (x : Ext σ0 H0 w0 σ H w) {lo : Nat} (hlo : H0.length ≤ lo) (hlo2 : lo ≤ H.length) {rv r' : AV} {u : Value} (hv : View lo H rv r') (hu : AR σ w rv u)
    (hn : ∀ b k, b < lo → H[b]? = some k → ∀ c ∈ k.cells, NR c) : Res G (H0.length == 0) σ0 H0 w0 r' (H.take lo) u w := by
  have hro : ∀ B, σ.ro B → (fun B => σ.ro B ∨ ImgFrom σ H lo B) B := fun B h => Or.inl h
  have hget : ∀ (b : Nat) (k : Blk), (H.take lo)[b]? = some k → b < lo ∧ H[b]? = some k := fun b k h => by
    rw [List.getElem?_take] at h
    split at h
    · exact ⟨by assumption, h⟩
    · cases h
  have himg : ∀ B, ImgFrom σ H lo B → w0.heap.size ≤ B ∨ Img σ0 H0 B := fun B ⟨b, k, l, h1, h2, h3, h4, h5⟩ => x.img ⟨b, k, l, h2, h3, h4, h5⟩
  refine ⟨⟨(rs σ lo).ρ, fun B => σ.ro B ∨ ImgFrom σ H lo B⟩, ?_, ⟨?_, ?_, ?_, ?_, ?_, ?_, fun b ver l h => r.base0 b ver l (rs_some h).2⟩, ⟨x.os, x.tape, x.output, x.size, ?_, fun B h => .inl (x.ro B h), x.frame, ?_, ?_, ?_, ?_⟩, fun h0 => ?_⟩
  · exact hv.ok r u hu
  · intro b k l h1 h2 h3
    obtain ⟨hb, h1⟩ := hget b k h1
    obtain ⟨C, fr, c1, c2, c3, c4, c5⟩ := r.blk b k l h1 h2 (rs_some h3).2
    refine ⟨C, fr, c1, c2, c3, c4, fun j hj => ?_⟩
    obtain ⟨v, e1, e2⟩ := c5 j hj
    exact ⟨v, e1, (hn b k hb h1 _ (by simp [List.getD_eq_getElem?_getD, hj])).to hro e2⟩
  · intro b1 b2 k1 k2 l1 l2 h1 h2 h3 g1 g2 g3
    exact r.inj b1 b2 k1 k2 l1 l2 (hget _ _ h1).2 h2 (rs_some h3).2 (hget _ _ g1).2 g2 (rs_some g3).2
  · intro b k l h1 h2 h3 h4
    obtain ⟨hb, h1⟩ := hget b k h1
    rcases h4 with h4 | ⟨b2, k2, l2, e1, e2, e3, e4, e5⟩
    · exact r.apart b k l h1 h2 (rs_some h3).2 h4
    · have := r.inj b2 b k2 k l2 l e2 e3 e4 h1 h2 (rs_some h3).2 e5
      omega
  · intro B hB
    rcases hB with hB | ⟨b2, k2, l2, e1, e2, e3, e4, e5⟩
    · exact r.roLt B hB
    · rw [← e5]
      exact r.lt e2 e3 e4
  · intro b ver l h
    obtain ⟨hb, h⟩ := rs_some h
    obtain ⟨k, h1, h2⟩ := r.fresh b ver l h
    exact ⟨k, by rw [List.getElem?_take, if_pos hb]; exact h1, h2⟩
  · intro g
    exact (hG g).to hro (r.glob g)
  · intro b ver l h
    obtain ⟨k, hk, _⟩ := r0.fresh b ver l h
    exact rs_of (Nat.lt_of_lt_of_le (List.getElem?_eq_some_iff.1 hk).1 hlo) (x.ρ b ver l h)
  · intro b ver l h
    exact x.new b ver l (rs_some h).2
  · intro b k' l h1 h2 h3
    exact x.stay b k' l (hget b k' h1).2 h2 h3
  · intro B hB
    rcases hB with hB | hB
    · exact x.roNew B hB
    · exact .inr (himg B hB)
  · rw [List.length_take]
    omega
  · have hnil : H0 = [] := List.eq_nil_of_length_eq_zero (by simpa using h0)
    subst hnil
    refine ⟨fun B hB => .same (x.frame B hB fun ⟨b, k, l, h1, _⟩ => by simp at h1), fun b ver l h => .inr (Nat.zero_le _)⟩
/-- A call, out of its body. -/
theorem ACall.of (hG : GN G) {imp : FuncId → Bool} (hmix : P.follows .mixedOrders = true) {n : FuncId} {fn : Func} {c : Code} (hf : P.funcs[n]? = some fn) (hname : (fn.name == "runtime.NumGoroutine") = false) (hb : fn.body = some c) {args : List AV} (hargs : args.length ≤ fn.ntmps) {H0 : AHeap} (lo : Nat) (hlo : H0.length ≤ lo) {r0 : AV} {H0' : AHeap}
    (h : avc P G imp c (args ++ List.replicate (fn.ntmps - args.length) (.v undef)) H0 fun e t H => (e = .normal ∨ e = .ret) ∧ aret P t H fn.results.toList fun r => View lo H r r0 ∧ lo ≤ H.length ∧ (∀ b k, b < lo → H[b]? = some k → ∀ c ∈ k.cells, NR c) ∧ H.take lo = H0') :
    ACall P G (H0.length == 0) n args H0 r0 H0' := by
  refine ⟨⟨fn, hf, hname, by rw [hb]; rfl⟩, fun σ w us hu ha rel => calls_of_wp hf hb ?_⟩
  have s : Sim G σ (args ++ List.replicate (fn.ntmps - args.length) (.v undef)) H0 { tmps := us ++ Array.replicate (fn.ntmps - us.size) undef, defers := [] } w := by
    refine ⟨rfl, by simp [hu], fun j hj => ?_, rel⟩
    simp only [List.length_append, List.length_replicate] at hj
    by_cases hja : j < args.length
    · have := ha j hja
      simpa [List.getD_eq_getElem?_getD, List.getElem?_append, Array.getElem?_append, hja, hu] using this
    · have e1 : (args ++ List.replicate (fn.ntmps - args.length) (AV.v undef)).getD j .any = .v undef := by
        rw [List.getD_eq_getElem?_getD, List.getElem?_append_right (by omega), List.getElem?_replicate, if_pos (by omega)]
        rfl
      have e2 : (us ++ Array.replicate (fn.ntmps - us.size) undef).getD j undef = undef := by
        rw [Array.getD_eq_getD_getElem?, Array.getElem?_append, if_neg (by omega), Array.getElem?_replicate, if_pos (by omega)]
        rfl
      rw [e1, e2]
      exact .v _
  refine Code.wp_mono (fun e a w' hq => ?_) (avc_ok hmix c _ H0 _ h σ H0 w σ _ w s (Ext.refl _ _ _))
  obtain ⟨t, H, σ', ⟨he, hr⟩, s', x⟩ := hq
  obtain ⟨r, u, ⟨hv, hl2, hn, rfl⟩, hrun, hru⟩ := aret_ok s' hr
  have hres := Res.cut hG rel s'.rel x hlo hl2 hv hru hn
  rcases he with rfl | rfl <;> exact ⟨s'.defers, u, hrun, u, rfl, hres⟩
end Go.Abs
