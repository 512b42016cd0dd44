/- One operation, and rows of them. -/
import Derived.Test.YtgmchiadphdlhaaDoorAbsBuild
import Derived.Test.YtgmchiadphdlhaaDoorAbsUst
namespace Go.Abs
set_option linter.unusedVariables false
set_option linter.unusedSimpArgs false
variable {P : Program} {G : Glob} {σ : Sig} {H : AHeap} {w : World}
/-- A slice, as an array behind a pointer. -/
def aArr (P : Program) (t : TypeId) (x : AV) (K : AV → Prop) : Prop :=
  match P.underlying t with
  | some (.array n _) => 0 < n ∧ match x with
    | .sl b ver off len _ _ _ => n ≤ len ∧ K (.ptr b ver off)
    | .vsl len cs _ => n ≤ len ∧ K (.vptr cs 0)
    | _ => False
  | _ => False
theorem aArr_ok {t : TypeId} {x : AV} {K : AV → Prop} (h : aArr P t x K) : ∃ r, K r ∧ ∀ (σ : Sig) (w : World) (ux : Value), AR σ w x ux → ∃ u, (Instr.arrayAt t ux).run P w = .ok u w ∧ AR σ w r u := by
  unfold aArr at h
  cases hd : P.underlying t with
  | none => simp [hd] at h
  | some d =>
    cases d <;> simp only [hd] at h <;> try (exact h.elim)
    rename_i n e
    obtain ⟨h0, h⟩ := h
    cases x <;> simp only at h <;> try (exact h.elim)
    · rename_i b ver off len cap sz xx
      obtain ⟨h1, hK⟩ := h
      refine ⟨_, hK, fun σ w ux hx => ?_⟩
      cases hx with
      | sl hρ g1 g2 g3 => exact ⟨_, by simp [Instr.arrayAt, run_underlying hd, show ¬ len < n by omega], .ptr hρ⟩
      | sl0 A => omega
    · rename_i len cs cx
      obtain ⟨h1, hK⟩ := h
      refine ⟨_, hK, fun σ w ux hx => ?_⟩
      cases hx with
      | vsl B o c' uu hr hm ha hle hx' => exact ⟨_, by simp [Instr.arrayAt, run_underlying hd, show ¬ len < n by omega], .vptr (off := 0) B o uu hr hm ha⟩
      | vsl0 A c' hx' => omega
def aUb (x : AV) : Prop :=
  match x with
  | .v (.bool _) => True
  | .ub => True
  | _ => False
theorem aUb_ok {x : AV} (h : aUb x) {u : Value} (hu : AR σ w x u) : AR σ w .ub u := by
  unfold aUb at h
  split at h
  · cases hu; exact .ub _
  · exact hu
  · exact h.elim
def aMM (x y : AV) (f : Int → Int → Int) (K : AV → Prop) : Prop :=
  match x, y with
  | .v (.int k a), .v (.int _ b) => K (.v (.int k (f a b)))
  | _, _ => False
def nxOf : List Oper → Bool
  | { op := .convert _ _ _, .. } :: _ => true
  | _ => false
def aop (P : Program) (G : Glob) (q nx : Bool) (env : Operand → AV) (H : AHeap) (o : Oper) (K : AV → AHeap → Prop) : Prop :=
  match o.op with
  | .move x => K (env x) H
  | .assign x => K (env x) H
  | .pick c a b => match env c with
    | .v (.bool t) => K (if t then env a else env b) H
    | .ub => aUb (env a) ∧ aUb (env b) ∧ K .ub H
    | _ => False
  | .alloc e => aAlloc P H e K
  | .box e x => aBox H e (env x) K
  | .build t parts => aBuild P t (parts.toList.map fun p => (p.1, env p.2)) fun r => K r H
  | .buildSlice t len parts => aBSlice P H nx t len (parts.toList.map fun p => (p.1, env p.2)) K
  | .load t x => aLoad P H t (env x) fun r => K r H
  | .store t x y => q = false ∧ aStore P H t (env x) (env y) fun H' => K (.v undef) H'
  | .nilCheck x => match env x with | .ptr _ _ _ => K (env x) H | .vptr _ _ => K (env x) H | .fn (.func _) _ => K (env x) H | _ => False
  | .binOp op t x y _ => aBinO P op t y (env x) (env y) fun r => K r H
  | .unOp op _ x => aUn op (env x) fun r => K r H
  | .convert s d x => aConv P H s d (env x) K
  | .sliceToArrayPointer t x => aArr P t (env x) fun r => K r H
  | .makeFunc f first cap => first.size = 0 ∧ K (.fn f (cap.toList.map env)) H
  | .makeInterface t x => P.concrete t = true ∧ K (.ifc t (env x)) H
  | .makeSlice t l c => aMake P H t (env l) (env c) K
  | .slice t x lo hi mx => aSlice P H t (env x) (lo.map env) (hi.map env) (mx.map env) fun r => K r H
  | .fieldAddr t x f => aFldAddr P t (env x) f fun r => K r H
  | .field t x f => aFld P t (env x) f fun r => K r H
  | .indexAddr t x i => aIdxAddr P t (env x) (env i) fun r => K r H
  | .index t x i => aIdx P t (env x) (env i) fun r => K r H
  | .extract x i => aExt (env x) i fun r => K r H
  | .call c => match c.callee with
    | .builtin .len => match c.args.toList, c.argTypes.toList with | [x], [t] => aLen P t (env x) fun r => K r H | _, _ => False
    | .builtin .append => match c.args.toList, c.argTypes.toList with
      | [s, x], [t, u] => (match P.underlying t with
        | some (.slice e) => match tzero P e, tsz P e, tby P e with
          | some z, some sz, some by' => z.cells.size = sz ∧ (if q = true then Row P u ∧ acont H sz (env x) fun m cs => aappQ P H e sz by' (env s) m cs K else if isIntT P u then aappZ P H e sz by' z (env s) (env x) K else Row P u ∧ acont H sz (env x) fun m cs => aapp P H e sz by' (env s) m cs K)
          | _, _, _ => False
        | _ => False)
      | _, _ => False
    | .builtin .unsafeSliceData => match c.args.toList with | [x] => aUsd (env x) fun r => K r H | _ => False
    | .builtin .unsafeString => match c.args.toList, c.argTypes.toList with | [x, y], [t, _] => q = false ∧ aUst P H t (env x) (env y) K | _, _ => False
    | .builtin .cap => match c.args.toList, c.argTypes.toList with | [x], [t] => aCap P t (env x) fun r => K r H | _, _ => False
    | .builtin .copy => match c.args.toList, c.argTypes.toList with
      | [d, s], [t, _] => q = false ∧ (match P.underlying t with
        | some (.slice e) => match tsz P e with
          | some sz => acont H sz (env s) fun n cs => aCopy H (env d) n cs K
          | none => False
        | _ => False)
      | _, _ => False
    | .builtin .min => match c.args.toList with | [x, y] => aMM (env x) (env y) (fun a b => if b < a then b else a) fun r => K r H | _ => False
    | .builtin .max => match c.args.toList with | [x, y] => aMM (env x) (env y) (fun a b => if b > a then b else a) fun r => K r H | _ => False
    | .value f => match env f with
      | .fn (.func n) caps => ∃ r H', ACallX P G q n (c.args.toList.map env ++ caps) H r H' ∧ (q = true → ∃ N, H' = H ++ N) ∧ K r H'
      | _ => False
    | _ => False
  | _ => False
theorem weakQ {q q' : Bool} {r : AV} {H' : AHeap} {u : Value} {w' : World} (h : Res G q σ H w r H' u w') (hq : q' = true → q = true) : Res G q' σ H w r H' u w' := by
  obtain ⟨σ', a, b, c, d⟩ := h
  exact ⟨σ', a, b, c, fun h => d (hq h)⟩
theorem some_out {o : Oper} {q : Bool} {env : Operand → AV} {r : AV} (h : ∀ (σ : Sig) (w : World) (a : Act), (∀ x, x ∈ o.op.operands → AR σ w (env x) (a.eval x)) → Rel G σ H w → ∃ u, (execOp a.eval o).run P w = .ok (.value u) w ∧ AR σ w r u) : OpOk P G q o env H r H :=
  OpOk.run fun σ w a hx rel => by
    obtain ⟨u, h1, h2⟩ := h σ w a hx rel
    exact ⟨u, w, .inl h1, Res.same rel h2⟩
theorem aop_ok {q nx : Bool} {env : Operand → AV} {o : Oper} {K : AV → AHeap → Prop} (h : aop P G q nx env H o K) : ∃ r H', K r H' ∧ OpOk P G q o env H r H' ∧ (q = true → ∃ N, H' = H ++ N) := by
  have nilN : q = true → ∃ N, H = H ++ N := fun _ => ⟨[], by simp⟩
  unfold aop at h
  cases ho : o.op with
  | move x =>
    simp only [ho] at h
    exact ⟨_, _, h, some_out fun σ w a hx rel => ⟨a.eval x, by simp [execOp, ho], hx x (by simp [ho, Op.operands])⟩, nilN⟩
  | assign x =>
    simp only [ho] at h
    exact ⟨_, _, h, some_out fun σ w a hx rel => ⟨a.eval x, by simp [execOp, ho], hx x (by simp [ho, Op.operands])⟩, nilN⟩
  | pick c a b =>
    simp only [ho] at h
    split at h
    · rename_i t hc
      refine ⟨_, _, h, some_out fun σ w ac hx rel => ?_, nilN⟩
      have h1 := hx c (by simp [ho, Op.operands])
      have h2 := hx a (by simp [ho, Op.operands])
      have h3 := hx b (by simp [ho, Op.operands])
      rw [hc] at h1
      generalize hcv : ac.eval c = uc at *
      cases h1
      cases t
      · exact ⟨ac.eval b, by simp [execOp, ho, hcv, asBool], h3⟩
      · exact ⟨ac.eval a, by simp [execOp, ho, hcv, asBool], h2⟩
    · rename_i hc
      obtain ⟨ha, hb, hK⟩ := h
      refine ⟨_, _, hK, some_out fun σ w ac hx rel => ?_, nilN⟩
      have h1 := hx c (by simp [ho, Op.operands])
      have h2 := hx a (by simp [ho, Op.operands])
      have h3 := hx b (by simp [ho, Op.operands])
      rw [hc] at h1
      generalize hcv : ac.eval c = uc at *
      cases h1 with
      | ub t =>
        cases t
        · exact ⟨ac.eval b, by simp [execOp, ho, hcv, asBool], aUb_ok hb h3⟩
        · exact ⟨ac.eval a, by simp [execOp, ho, hcv, asBool], aUb_ok ha h2⟩
    · exact h.elim
  | alloc e =>
    simp only [ho] at h
    obtain ⟨r, H', hK, hN, hr⟩ := aAlloc_ok G h
    refine ⟨r, H', hK, OpOk.run fun σ w a hx rel => ?_, fun _ => hN⟩
    obtain ⟨u, w', h1, h2⟩ := hr σ w rel
    exact ⟨u, w', .inl (by simp [execOp, ho, h1]), weakQ h2 fun _ => rfl⟩
  | box e x =>
    simp only [ho] at h
    obtain ⟨r, H', hK, hN, hr⟩ := aBox_ok (P := P) G h
    refine ⟨r, H', hK, OpOk.run fun σ w a hx rel => ?_, fun _ => hN⟩
    obtain ⟨u, w', h1, h2⟩ := hr σ w _ rel (hx x (by simp [ho, Op.operands]))
    exact ⟨u, w', .inl (by simp [execOp, ho, h1]), weakQ h2 fun _ => rfl⟩
  | build t parts =>
    simp only [ho] at h
    obtain ⟨r, hK, hr⟩ := aBuild_ok h
    refine ⟨r, _, hK, some_out fun σ w a hx rel => ?_, nilN⟩
    obtain ⟨u, h1, h2⟩ := hr σ w a (fun p hp => hx p.2 (by
      simp only [ho, Op.operands, List.mem_toArray, List.mem_map]
      exact ⟨p, hp, rfl⟩))
    exact ⟨u, by simp [execOp, ho, h1], h2⟩
  | buildSlice t len parts =>
    simp only [ho] at h
    obtain ⟨r, H', hK, hN, hr⟩ := aBSlice_ok G h
    refine ⟨r, H', hK, OpOk.run fun σ w a hx rel => ?_, fun _ => hN⟩
    obtain ⟨u, w', h1, h2⟩ := hr σ w a rel (fun p hp => hx p.2 (by
      simp only [ho, Op.operands, List.mem_toArray, List.mem_map]
      exact ⟨p, hp, rfl⟩))
    exact ⟨u, w', .inl (by simp [execOp, ho, h1]), weakQ h2 fun _ => rfl⟩
  | load t x =>
    simp only [ho] at h
    obtain ⟨r, hK, hr⟩ := aLoad_ok G h
    refine ⟨r, _, hK, some_out fun σ w a hx rel => ?_, nilN⟩
    obtain ⟨u, h1, h2⟩ := hr σ w _ rel (hx x (by simp [ho, Op.operands]))
    exact ⟨u, by simp [execOp, ho, h1], h2⟩
  | store t x y =>
    simp only [ho] at h
    obtain ⟨rfl, h⟩ := h
    obtain ⟨H', hK, hr⟩ := aStore_ok G h
    refine ⟨_, H', hK, OpOk.run fun σ w a hx rel => ?_, fun h => by cases h⟩
    obtain ⟨w', h1, h2⟩ := hr σ w _ _ rel (hx x (by simp [ho, Op.operands])) (hx y (by simp [ho, Op.operands]))
    exact ⟨undef, w', .inr ⟨by simp [execOp, ho, h1], rfl⟩, h2⟩
  | nilCheck x =>
    simp only [ho] at h
    cases hx' : env x <;> simp only [hx'] at h <;> try (exact h.elim)
    · refine ⟨_, _, h, some_out fun σ w a hx rel => ?_, nilN⟩
      have := hx x (by simp [ho, Op.operands])
      rw [hx'] at this
      generalize hu : a.eval x = ux at *
      cases this with
      | ptr hρ => exact ⟨_, by simp [execOp, ho, hu], .ptr hρ⟩
    · refine ⟨_, _, h, some_out fun σ w a hx rel => ?_, nilN⟩
      have := hx x (by simp [ho, Op.operands])
      rw [hx'] at this
      generalize hu : a.eval x = ux at *
      cases this with
      | vptr B o u hr hm ha => exact ⟨_, by simp [execOp, ho, hu], .vptr B o u hr hm ha⟩
    · split at h
      · rename_i e
        cases e
      · rename_i e
        cases e
      · rename_i f cs e
        cases e
        refine ⟨_, _, h, some_out fun σ w a hx rel => ?_, nilN⟩
        have := hx x (by simp [ho, Op.operands])
        rw [hx'] at this
        generalize hu : a.eval x = ux at *
        cases this with
        | fn us hl ha => exact ⟨_, by simp [execOp, ho, hu], .fn us hl ha⟩
      · exact h.elim
  | binOp op t x y ty =>
    simp only [ho] at h
    obtain ⟨r, hK, hr⟩ := aBinO_ok x h
    refine ⟨r, _, hK, some_out fun σ w a hx rel => ?_, nilN⟩
    obtain ⟨u, h1, h2⟩ := hr σ w _ _ (hx x (by simp [ho, Op.operands])) (hx y (by simp [ho, Op.operands]))
    exact ⟨u, by simp only [execOp, ho]; rw [Sem.run_bind, h1]; rfl, h2⟩
  | unOp op t x =>
    simp only [ho] at h
    obtain ⟨r, hK, hr⟩ := aUn_ok (P := P) h
    refine ⟨r, _, hK, some_out fun σ w a hx rel => ?_, nilN⟩
    obtain ⟨u, h1, h2⟩ := hr σ w _ (hx x (by simp [ho, Op.operands]))
    exact ⟨u, by simp [execOp, ho, h1], h2⟩
  | convert s d x =>
    simp only [ho] at h
    obtain ⟨r, H', hK, hN, hr⟩ := aConv_ok G h
    refine ⟨r, H', hK, OpOk.run fun σ w a hx rel => ?_, fun _ => hN⟩
    obtain ⟨u, w', h1, h2⟩ := hr σ w _ rel (hx x (by simp [ho, Op.operands]))
    exact ⟨u, w', .inl (by simp [execOp, ho, h1]), weakQ h2 (fun _ => rfl)⟩
  | sliceToArrayPointer t x =>
    simp only [ho] at h
    obtain ⟨r, hK, hr⟩ := aArr_ok h
    refine ⟨r, _, hK, some_out fun σ w a hx rel => ?_, nilN⟩
    obtain ⟨u, h1, h2⟩ := hr σ w _ (hx x (by simp [ho, Op.operands]))
    exact ⟨u, by simp [execOp, ho, h1], h2⟩
  | makeFunc f first cap =>
    simp only [ho] at h
    obtain ⟨hf, hK⟩ := h
    refine ⟨_, _, hK, some_out fun σ w a hx rel => ⟨.func f #[] (cap.map a.eval), ?_, .fn _ (by simp) (fun j hj => ?_)⟩, nilN⟩
    · have : first = #[] := Array.eq_empty_of_size_eq_zero hf
      simp [execOp, ho, Instr.makeFunc, this]
    · have hj' : j < cap.size := by simpa using hj
      have := hx cap[j] (by simp [ho, Op.operands])
      simpa [List.getD_eq_getElem?_getD, hj'] using this
  | makeInterface t x =>
    simp only [ho] at h
    obtain ⟨hc, hK⟩ := h
    exact ⟨_, _, hK, some_out fun σ w a hx rel => ⟨_, by simp [execOp, ho, run_makeInterface w t (a.eval x) hc], .ifc (hx x (by simp [ho, Op.operands]))⟩, nilN⟩
  | makeSlice t l c =>
    simp only [ho] at h
    obtain ⟨r, H', hK, hN, hr⟩ := aMake_ok G h
    refine ⟨r, H', hK, OpOk.run fun σ w a hx rel => ?_, fun _ => hN⟩
    obtain ⟨u, w', h1, h2⟩ := hr σ w _ _ rel (hx l (by simp [ho, Op.operands])) (hx c (by simp [ho, Op.operands]))
    exact ⟨u, w', .inl (by simp [execOp, ho, h1]), weakQ h2 fun _ => rfl⟩
  | slice t x lo hi mx =>
    simp only [ho] at h
    obtain ⟨r, hK, hr⟩ := aSlice_ok G h
    refine ⟨r, _, hK, some_out fun σ w a hx rel => ?_, nilN⟩
    obtain ⟨u, h1, h2⟩ := hr σ w a rel (hx x (by simp [ho, Op.operands])) (fun y hy => hx y (by simp [ho, Op.operands]; exact .inr (.inl (by simpa using hy)))) (fun y hy => hx y (by simp [ho, Op.operands]; exact .inr (.inr (.inl (by simpa using hy))))) (fun y hy => hx y (by simp [ho, Op.operands]; exact .inr (.inr (.inr (by simpa using hy)))))
    exact ⟨u, by simp [execOp, ho, h1], h2⟩
  | fieldAddr t x f =>
    simp only [ho] at h
    obtain ⟨r, hK, hr⟩ := aFldAddr_ok h
    refine ⟨r, _, hK, some_out fun σ w a hx rel => ?_, nilN⟩
    obtain ⟨u, h1, h2⟩ := hr σ w _ (hx x (by simp [ho, Op.operands]))
    exact ⟨u, by simp [execOp, ho, h1], h2⟩
  | field t x f =>
    simp only [ho] at h
    have hf : ∃ r, K r H ∧ aFld P t (env x) f (· = r) := by
      unfold aFld at h ⊢
      split at h
      · split at h
        · obtain ⟨r, h1, h2⟩ := rdP_fun h
          exact ⟨r, h1, h2⟩
        · exact h.elim
      · exact h.elim
    obtain ⟨r, hK, h⟩ := hf
    refine ⟨r, _, hK, some_out fun σ w a hx rel => ?_, nilN⟩
    obtain ⟨r', u, rfl, h1, h2⟩ := aFld_ok (w := w) h _ (hx x (by simp [ho, Op.operands]))
    exact ⟨u, by simp [execOp, ho, h1], h2⟩
  | indexAddr t x i =>
    simp only [ho] at h
    obtain ⟨r, hK, hr⟩ := aIdxAddr_ok h
    refine ⟨r, _, hK, some_out fun σ w a hx rel => ?_, nilN⟩
    obtain ⟨u, h1, h2⟩ := hr σ w _ _ (hx x (by simp [ho, Op.operands])) (hx i (by simp [ho, Op.operands]))
    exact ⟨u, by simp [execOp, ho, h1], h2⟩
  | index t x i =>
    simp only [ho] at h
    have hf : ∃ r, K r H ∧ aIdx P t (env x) (env i) (· = r) := by
      unfold aIdx at h ⊢
      split at h
      · split at h
        · obtain ⟨h1, h2, h⟩ := h
          obtain ⟨r, h3, h4⟩ := rdP_fun h
          exact ⟨r, h3, h1, h2, h4⟩
        · exact h.elim
      · exact ⟨_, h.2.2, h.1, h.2.1, rfl⟩
      · exact h.elim
    obtain ⟨r, hK, h⟩ := hf
    refine ⟨r, _, hK, some_out fun σ w a hx rel => ?_, nilN⟩
    obtain ⟨r', u, rfl, h1, h2⟩ := aIdx_ok (w := w) h _ _ (hx x (by simp [ho, Op.operands])) (hx i (by simp [ho, Op.operands]))
    exact ⟨u, by simp [execOp, ho, h1], h2⟩
  | extract x i =>
    simp only [ho] at h
    have hf : ∃ r, K r H ∧ aExt (env x) i (· = r) := by
      unfold aExt at h ⊢
      split at h
      · exact ⟨_, h.2, h.1, rfl⟩
      · exact h.elim
    obtain ⟨r, hK, h⟩ := hf
    refine ⟨r, _, hK, some_out fun σ w a hx rel => ?_, nilN⟩
    obtain ⟨r', u, rfl, h1, h2⟩ := aExt_ok (P := P) (w := w) h _ (hx x (by simp [ho, Op.operands]))
    exact ⟨u, by simp [execOp, ho, h1], h2⟩
  | call c =>
    simp only [ho] at h
    obtain ⟨callee, args, argTypes⟩ := c
    cases callee with
    | value f =>
      simp only at h
      cases hf : env f <;> simp only [hf] at h <;> try (exact h.elim)
      rename_i fn caps
      cases fn <;> simp only at h <;> try (exact h.elim)
      rename_i n
      obtain ⟨r, H', hc, hN, hK⟩ := h
      refine ⟨r, H', hK, ?_, hN⟩
      intro σ w a KK Q hx rel hKK
      have h1 := hx f (by simp [ho, Op.operands, Call.operands])
      rw [hf] at h1
      generalize hu : a.eval f = uf at *
      cases h1 with
      | fn us hl ha =>
        have hargs : ∀ j, j < (args.toList.map env ++ caps).length → AR σ w ((args.toList.map env ++ caps).getD j .any) ((args.map a.eval ++ us).getD j undef) := fun j hj => by
          simp only [List.length_append, List.length_map, Array.length_toList] at hj
          by_cases hja : j < args.size
          · have h2 := hx args[j] (by simp [ho, Op.operands, Call.operands])
            simpa [List.getD_eq_getElem?_getD, List.getElem?_append, Array.getElem?_append, hja] using h2
          · have h2 := ha (j - args.size) (by omega)
            simpa [List.getD_eq_getElem?_getD, List.getElem?_append, Array.getElem?_append, hja] using h2
        rcases hc with hc | ⟨hc, rfl⟩
        · obtain ⟨⟨fn, c1, c2, c3⟩, hc⟩ := hc
          have hcalls := hc σ w (args.map a.eval ++ us) (by simp [hl]) hargs rel
          unfold Oper.wp
          have hrun : (execOp a.eval o).run P w = .ok (.enter n (args.map a.eval ++ us)) w := by
            have hb : fn.body.isNone = false := by cases hbb : fn.body <;> simp_all
            simp only [execOp, ho, resolve, hu, Deferred.ofValue, invoke, callFunc, Sem.run_bind, Sem.run_pure, Result.andThen_ok, run_program, c1, c2, hb, Bool.false_eq_true, if_false, Array.empty_append]
          rw [hrun]
          refine hcalls.mono fun e w' he => ?_
          obtain ⟨u, rfl, hres⟩ := he
          exact hKK u w' hres
        · obtain ⟨u, h2, h3⟩ := hc σ w (args.map a.eval ++ us) (by simp [hl]) hargs
          unfold Oper.wp
          have hrun : (execOp a.eval o).run P w = .ok (.value u) w := by
            simp only [execOp, ho, resolve, hu, Deferred.ofValue, invoke, Sem.run_bind, Sem.run_pure, Result.andThen_ok, Array.empty_append]
            exact h2
          rw [hrun]
          exact hKK u w (Res.same rel h3)
    | invoke r m => exact h.elim
    | builtin b =>
      cases b <;> simp only at h <;> try (exact h.elim)
      case append =>
        obtain ⟨args⟩ := args
        obtain ⟨argTypes⟩ := argTypes
        simp only at h
        split at h
        · rename_i s x t u
          cases hd : P.underlying t with
          | none => simp [hd] at h
          | some d =>
            cases d <;> simp only [hd] at h <;> try (exact h.elim)
            rename_i e
            cases hi : P.info? e with
            | none => simp [tzero, hi] at h
            | some i =>
              cases hz : i.zero with
              | none => simp [tzero, hi, hz] at h
              | some z =>
                simp only [tzero, tsz, tby, hi, hz, Option.bind_some, Option.map_some] at h
                obtain ⟨hzs, h⟩ := h
                by_cases hq : q = true
                · subst hq
                  rw [if_pos rfl] at h
                  obtain ⟨hu, h⟩ := h
                  obtain ⟨r, H', hK, hN, hr⟩ := appendQ_ok (ty := o.type) G hd hu hi hz hzs h
                  refine ⟨r, H', hK, OpOk.run fun σ w a hx rel => ?_, fun _ => hN⟩
                  obtain ⟨v, w', h1, h2⟩ := hr σ w _ _ rel (hx s (by simp [ho, Op.operands, Call.operands])) (hx x (by simp [ho, Op.operands, Call.operands]))
                  exact ⟨v, w', .inl (by simp [execOp, ho, resolve, invoke, builtin, h1]), h2⟩
                rw [if_neg hq] at h
                obtain rfl : q = false := by simpa using hq
                have hh : ∃ r H', K r H' ∧ ∀ (σ : Sig) (w : World) (us ux : Value), Rel G σ H w → AR σ w (env s) us → AR σ w (env x) ux → ∃ v w', (Builtin.append_ #[t, u] o.type #[us, ux]).run P w = .ok v w' ∧ Res G false σ H w r H' v w' := by
                  split at h
                  · rename_i hu
                    exact appendZ_ok (ty := o.type) G hd hu hi hz hzs h
                  · obtain ⟨hu, h⟩ := h
                    exact append_ok (ty := o.type) G hd hu hi hz hzs h
                obtain ⟨r, H', hK, hr⟩ := hh
                refine ⟨r, H', hK, OpOk.run fun σ w a hx rel => ?_, fun h => by cases h⟩
                obtain ⟨v, w', h1, h2⟩ := hr σ w _ _ rel (hx s (by simp [ho, Op.operands, Call.operands])) (hx x (by simp [ho, Op.operands, Call.operands]))
                exact ⟨v, w', .inl (by simp [execOp, ho, resolve, invoke, builtin, h1]), h2⟩
        · exact h.elim
      case copy =>
        obtain ⟨args⟩ := args
        obtain ⟨argTypes⟩ := argTypes
        simp only at h
        split at h
        · rename_i d s t u
          obtain ⟨rfl, h⟩ := h
          cases hd : P.underlying t with
          | none => simp [hd] at h
          | some dd =>
            cases dd <;> simp only [hd] at h <;> try (exact h.elim)
            rename_i e
            cases hi : P.info? e with
            | none => simp [tsz, hi] at h
            | some i =>
              simp only [tsz, hi, Option.map_some] at h
              obtain ⟨r, H', hK, hr⟩ := copy_ok (sT := u) (ty := o.type) G hd hi h
              refine ⟨r, H', hK, OpOk.run fun σ w a hx rel => ?_, fun h => by cases h⟩
              obtain ⟨v, w', h1, h2⟩ := hr σ w _ _ rel (hx d (by simp [ho, Op.operands, Call.operands])) (hx s (by simp [ho, Op.operands, Call.operands]))
              exact ⟨v, w', .inl (by simp [execOp, ho, resolve, invoke, builtin, h1]), h2⟩
        · exact h.elim
      case cap =>
        obtain ⟨args⟩ := args
        obtain ⟨argTypes⟩ := argTypes
        simp only at h
        split at h
        · rename_i x t
          obtain ⟨r, hK, hr⟩ := aCap_ok (ts := #[t]) (ty := o.type) rfl h
          refine ⟨r, _, hK, some_out fun σ w a hx rel => ?_, nilN⟩
          obtain ⟨u, h1, h2⟩ := hr σ w _ (hx x (by simp [ho, Op.operands, Call.operands]))
          exact ⟨u, by simp [execOp, ho, resolve, invoke, builtin, h1], h2⟩
        · exact h.elim
      case unsafeSliceData =>
        obtain ⟨args⟩ := args
        simp only at h
        split at h
        · rename_i x
          obtain ⟨r, hK, hr⟩ := aUsd_ok (P := P) h argTypes o.type
          refine ⟨r, _, hK, some_out fun σ w a hx rel => ?_, nilN⟩
          obtain ⟨u, h1, h2⟩ := hr σ w _ (hx x (by simp [ho, Op.operands, Call.operands]))
          exact ⟨u, by simp [execOp, ho, resolve, invoke, builtin, h1], h2⟩
        · exact h.elim
      case unsafeString =>
        obtain ⟨args⟩ := args
        obtain ⟨argTypes⟩ := argTypes
        simp only at h
        split at h
        · rename_i x y t it
          obtain ⟨rfl, h⟩ := h
          obtain ⟨r, H', hK, hr⟩ := aUst_ok (it := it) (ty := o.type) G h
          refine ⟨r, H', hK, OpOk.run fun σ w a hx rel => ?_, fun h => by cases h⟩
          obtain ⟨v, w', h1, h2⟩ := hr σ w _ _ rel (hx x (by simp [ho, Op.operands, Call.operands])) (hx y (by simp [ho, Op.operands, Call.operands]))
          exact ⟨v, w', .inl (by simp [execOp, ho, resolve, invoke, builtin, h1]), h2⟩
        · exact h.elim
      case len =>
        obtain ⟨args⟩ := args
        obtain ⟨argTypes⟩ := argTypes
        simp only at h
        split at h
        · rename_i x t
          obtain ⟨r, hK, hr⟩ := aLen_ok (ts := #[t]) (ty := o.type) rfl h
          refine ⟨r, _, hK, some_out fun σ w a hx rel => ?_, nilN⟩
          obtain ⟨u, h1, h2⟩ := hr σ w _ (hx x (by simp [ho, Op.operands, Call.operands]))
          exact ⟨u, by simp [execOp, ho, resolve, invoke, builtin, h1], h2⟩
        · exact h.elim
      case max =>
        obtain ⟨args⟩ := args
        simp only at h
        split at h
        · rename_i x y
          unfold aMM at h
          split at h
          · rename_i k a k' b e1 e2
            refine ⟨_, _, h, some_out fun σ w ac hx rel => ?_, nilN⟩
            have h1 := hx x (by simp [ho, Op.operands, Call.operands])
            have h2 := hx y (by simp [ho, Op.operands, Call.operands])
            rw [e1] at h1
            rw [e2] at h2
            generalize hux : ac.eval x = ux at *
            generalize huy : ac.eval y = uy at *
            cases h1
            cases h2
            exact ⟨_, by simp only [execOp, ho, resolve, invoke, builtin, Sem.run_bind, Sem.run_pure, Result.andThen_ok, List.map_toArray, List.map_cons, List.map_nil, hux, huy, run_max_int2], .v _⟩
          · exact h.elim
        · exact h.elim
      case min =>
        obtain ⟨args⟩ := args
        simp only at h
        split at h
        · rename_i x y
          unfold aMM at h
          split at h
          · rename_i k a k' b e1 e2
            refine ⟨_, _, h, some_out fun σ w ac hx rel => ?_, nilN⟩
            have h1 := hx x (by simp [ho, Op.operands, Call.operands])
            have h2 := hx y (by simp [ho, Op.operands, Call.operands])
            rw [e1] at h1
            rw [e2] at h2
            generalize hux : ac.eval x = ux at *
            generalize huy : ac.eval y = uy at *
            cases h1
            cases h2
            exact ⟨_, by simp only [execOp, ho, resolve, invoke, builtin, Sem.run_bind, Sem.run_pure, Result.andThen_ok, List.map_toArray, List.map_cons, List.map_nil, hux, huy, run_min_int2], .v _⟩
          · exact h.elim
        · exact h.elim
  | _ => simp only [ho] at h
end Go.Abs
