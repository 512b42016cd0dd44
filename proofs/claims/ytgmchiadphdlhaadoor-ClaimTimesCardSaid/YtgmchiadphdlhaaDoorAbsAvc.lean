/- Code as a predicate of what it comes to; calls out of it. -/
import Derived.Test.YtgmchiadphdlhaaDoorAbsCode
namespace Go.Abs
set_option linter.unusedVariables false
set_option linter.unusedSimpArgs false
variable {P : Program} {G : Glob} {σ : Sig} {H : AHeap} {w : World}
def loudOp (P : Program) (imp : FuncId → Bool) : Op → Bool
  | .store _ _ _ => true
  | .call { callee := .builtin .append, args, .. } => match args.toList with | .tmp s :: _ => !imp (1000000 + s) | _ => true
  | .call { callee := .builtin .copy, .. } => true
  | .call { callee := .builtin .unsafeString, .. } => true
  | .call { callee := .value (.func f), .. } => imp f
  | _ => false
def mOf (P : Program) (imp : FuncId → Bool) : List Oper → Nat
  | [] => 0
  | o :: r => if loudOp P imp o.op then 0 else mOf P imp r + 1
def areg (P : Program) (G : Glob) (imp : FuncId → Bool) (ops : Array Oper) (draw : Bool) (t : List AV) (H : AHeap) (K : List AV → AHeap → Prop) : Prop :=
  match draw with
  | true => ordB ops (mOf P imp ops.toList) = true ∧ aops P G true ops (ops.toList.take (mOf P imp ops.toList)) t H fun t' H' => aops P G false ops (ops.toList.drop (mOf P imp ops.toList)) t' H' K
  | false => aops P G false ops ops.toList t H K
def ALe : List AV → List AV → Prop
  | [], [] => True
  | x :: xs, y :: ys => (y = .any ∨ x = y) ∧ ALe xs ys
  | _, _ => False
theorem ALe.refl : ∀ xs : List AV, ALe xs xs
  | [] => trivial
  | x :: xs => ⟨.inr rfl, ALe.refl xs⟩
theorem ALe.length : ∀ {xs ys : List AV}, ALe xs ys → xs.length = ys.length
  | [], [], _ => rfl
  | x :: xs, y :: ys, h => by simp [ALe.length h.2]
  | [], _ :: _, h => h.elim
  | _ :: _, [], h => h.elim
theorem ALe.get : ∀ {xs ys : List AV}, ALe xs ys → ∀ j, ys.getD j .any = .any ∨ xs.getD j .any = ys.getD j .any
  | [], [], _, j => .inr rfl
  | x :: xs, y :: ys, h, 0 => by simpa using h.1
  | x :: xs, y :: ys, h, j + 1 => by simpa using ALe.get h.2 j
  | [], _ :: _, h, _ => h.elim
  | _ :: _, [], h, _ => h.elim
theorem ALe.sim {t t' : List AV} {a : Act} (h : ALe t t') (s : Sim G σ t H a w) : Sim G σ t' H a w := by
  refine ⟨s.defers, s.size.trans h.length, fun j hj => ?_, s.rel⟩
  rcases h.get j with e | e
  · rw [e]
    exact .any _
  · rw [← e]
    exact s.tmps j (by rw [h.length]; exact hj)
abbrev APost := Exit → List AV → AHeap → Prop
def avc (P : Program) (G : Glob) (imp : FuncId → Bool) : Code → List AV → AHeap → APost → Prop
  | .skip, t, H, Q => Q .normal t H
  | .region _ ops draw, t, H, Q => areg P G imp ops draw t H (Q .normal)
  | .seq a b, t, H, Q => avc P G imp a t H fun e t' H' => match e with
    | .normal => avc P G imp b t' H' Q
    | e => Q e t' H'
  | .cond c a b, t, H, Q => match aenv G t c with
    | .v (.bool x) => (x = true → avc P G imp a t H Q) ∧ (x = false → avc P G imp b t H Q)
    | _ => False
  | .block id c, t, H, Q => avc P G imp c t H fun e t' H' => match e with
    | .exit i => if i = id then Q .normal t' H' else Q (.exit i) t' H'
    | e => Q e t' H'
  | .loop c, t, H, Q => ∃ (X : Type) (I : Nat → X → Prop) (mk : X → List AV) (hp : X → AHeap) (n0 : Nat) (x0 : X), I n0 x0 ∧ ALe t (mk x0) ∧ H = hp x0 ∧
      ∀ n x, I n x → avc P G imp c (mk x) (hp x) fun e t' H' => match e with
        | .normal => ∃ n' x', n' < n ∧ I n' x' ∧ ALe t' (mk x') ∧ H' = hp x'
        | e => Q e t' H'
  | .exit id, t, H, Q => Q (.exit id) t H
  | .label _, t, H, Q => Q .normal t H
  | .ret, t, H, Q => Q .ret t H
  | _, _, _, _ => False
/-- The machine's side of a post. -/
def CPost (G : Glob) (σ0 : Sig) (H0 : AHeap) (w0 : World) (Q : APost) (e : Exit) (a : Act) (w : World) : Prop := ∃ t H σ, Q e t H ∧ Sim G σ t H a w ∧ Ext σ0 H0 w0 σ H w
theorem areg_ok {imp : FuncId → Bool} (hmix : P.follows .mixedOrders = true) {id : Nat} {ops : Array Oper} {draw : Bool} {t : List AV} {K : List AV → AHeap → Prop} (h : areg P G imp ops draw t H K) {a : Act} (s : Sim G σ t H a w) {Q : Exit → Act → World → Prop}
    (hQ : ∀ t' H' σ' a' w', K t' H' → Sim G σ' t' H' a' w' → Ext σ H w σ' H' w' → Q .normal a' w') : (Code.region id ops draw).wp P Q a w := by
  cases draw with
  | false => exact wp_region_list (aops_list h σ a w s hQ)
  | true =>
    obtain ⟨hord, h⟩ := h
    have ord := Ord.of hord
    obtain ⟨T, Hh, V, e1, e2, hK, hst⟩ := aops_run h
    generalize hm : mOf P imp ops.toList = m at *
    have hlen : (ops.toList.take m).length = m := by rw [List.length_take]; have := ord.le; simp; omega
    rw [hlen] at hK
    have hst' : ∀ i, i < m → ∀ o, ops[i]? = some o → StepAt P G ops o (T i) (T (i + 1)) (Hh i) (Hh (i + 1)) (V i) := fun i hi o ho => hst i o (by rw [List.getElem?_take, if_pos hi]; simpa using ho)
    have hw0 : ({ w with drawn := w.drawn + 1 } : World).heap = w.heap := rfl
    have s0 : Sim G σ (T 0) (Hh 0) a { w with drawn := w.drawn + 1 } := by
      rw [e1, e2]
      exact ⟨s.defers, s.size, fun j hj => (s.tmps j hj).drew hw0, s.rel.drew hw0⟩
    refine wp_region_any hmix (draw_any (σ0 := σ) (w0 := { w with drawn := w.drawn + 1 }) ord hst' (fun σ1 a1 w1 s1 x1 => ?_) ops.size _ a _ σ (DInv.start ord hst' s0.lift) _ rfl ?_)
    · refine aops_list hK σ1 a1 w1 s1 fun t' H' σ' a' w' k1 k2 k3 => hQ t' H' σ' a' w' k1 k2 ?_
      rw [e2] at x1
      exact (Ext.drew (w := w) (w' := { w with drawn := w.drawn + 1 }) rfl rfl rfl rfl).trans (x1.trans k3)
    · have : ((List.range m).filter fun i => !(Array.replicate ops.size false).getD i false).length ≤ m := by
        refine Nat.le_trans (List.length_filter_le _ _) ?_
        simp
      have := ord.le
      omega
theorem avc_ok {imp : FuncId → Bool} (hmix : P.follows .mixedOrders = true) : ∀ (c : Code) (t : List AV) (H : AHeap) (Q : APost), avc P G imp c t H Q → ∀ (σ0 : Sig) (H0 : AHeap) (w0 : World) (σ : Sig) (a : Act) (w : World), Sim G σ t H a w → Ext σ0 H0 w0 σ H w → c.wp P (CPost G σ0 H0 w0 Q) a w
  | .skip, t, H, Q, h, σ0, H0, w0, σ, a, w, s, x => wp_skip ⟨t, H, σ, h, s, x⟩
  | .region id ops draw, t, H, Q, h, σ0, H0, w0, σ, a, w, s, x => areg_ok hmix h s fun t' H' σ' a' w' k1 k2 k3 => ⟨t', H', σ', k1, k2, x.trans k3⟩
  | .seq c d, t, H, Q, h, σ0, H0, w0, σ, a, w, s, x => by
    refine wp_seq (Code.wp_mono (fun e a' w' hq => ?_) (avc_ok hmix c t H _ h σ0 H0 w0 σ a w s x))
    obtain ⟨t', H', σ', k1, k2, k3⟩ := hq
    cases e with
    | normal => exact avc_ok hmix d t' H' Q k1 σ0 H0 w0 σ' a' w' k2 k3
    | _ => exact ⟨t', H', σ', k1, k2, k3⟩
  | .cond c x y, t, H, Q, h, σ0, H0, w0, σ, a, w, s, xt => by
    simp only [avc] at h
    have hc := s.env c
    split at h
    · rename_i b hb
      rw [hb] at hc
      have hv : a.eval c = .bool b := by
        generalize a.eval c = u at *
        cases hc
        rfl
      refine wp_cond_split hv (fun hb => avc_ok hmix x t H Q (h.1 hb) σ0 H0 w0 σ a w s xt) (fun hb => avc_ok hmix y t H Q (h.2 hb) σ0 H0 w0 σ a w s xt)
    · exact h.elim
  | .block id c, t, H, Q, h, σ0, H0, w0, σ, a, w, s, x => by
    refine wp_block (Code.wp_mono (fun e a' w' hq => ?_) (avc_ok hmix c t H _ h σ0 H0 w0 σ a w s x))
    obtain ⟨t', H', σ', k1, k2, k3⟩ := hq
    cases e with
    | exit i =>
      simp only [Exit.inBlock]
      simp only at k1
      by_cases hi : i = id
      · rw [if_pos hi] at k1 ⊢
        exact ⟨t', H', σ', k1, k2, k3⟩
      · rw [if_neg hi] at k1 ⊢
        exact ⟨t', H', σ', k1, k2, k3⟩
    | _ => exact ⟨t', H', σ', k1, k2, k3⟩
  | .loop c, t, H, Q, h, σ0, H0, w0, σ, a, w, s, x => by
    obtain ⟨X, I, mk, hp, n0, x0, hI, hle, rfl, hround⟩ := h
    refine wp_loop_ghost (fun n a' w' => ∃ x' σ', I n x' ∧ Sim G σ' (mk x') (hp x') a' w' ∧ Ext σ0 H0 w0 σ' (hp x') w') n0 ⟨x0, σ, hI, hle.sim s, x⟩ ?_
    rintro n a' w' ⟨x', σ', hI', s', xt'⟩
    refine Code.wp_mono (fun e a2 w2 hq => ?_) (avc_ok hmix c _ _ _ (hround n x' hI') σ0 H0 w0 σ' a' w' s' xt')
    obtain ⟨t2, H2, σ2, k1, k2, k3⟩ := hq
    cases e with
    | normal =>
      obtain ⟨n', x2, hlt, hI2, hle2, rfl⟩ := k1
      exact ⟨n', hlt, x2, σ2, hI2, hle2.sim k2, k3⟩
    | _ => exact ⟨t2, H2, σ2, k1, k2, k3⟩
  | .exit id, t, H, Q, h, σ0, H0, w0, σ, a, w, s, x => wp_exit ⟨t, H, σ, h, s, x⟩
  | .label l, t, H, Q, h, σ0, H0, w0, σ, a, w, s, x => wp_label ⟨t, H, σ, h, s, x⟩
  | .ret, t, H, Q, h, σ0, H0, w0, σ, a, w, s, x => wp_ret ⟨t, H, σ, h, s, x⟩
  | .rangeFunc _ _ _ _, t, H, Q, h, _, _, _, _, _, _, _, _ => by simp [avc] at h
  | .scope _, t, H, Q, h, _, _, _, _, _, _, _, _ => by simp [avc] at h
  | .goto _, t, H, Q, h, _, _, _, _, _, _, _, _ => by simp [avc] at h
  | .refuse _, t, H, Q, h, _, _, _, _, _, _, _, _ => by simp [avc] at h
end Go.Abs
