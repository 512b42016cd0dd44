/- unsafe.SliceData, unsafe.String over a row of one's own; a builder's cells. -/
import Derived.Test.YtgmchiadphdlhaaDoorAbsLit
import Derived.Lib.UnsafeStr
namespace Go.Abs
set_option linter.unusedVariables false
set_option linter.unusedSimpArgs false
variable {P : Program} {G : Glob} {σ : Sig} {H : AHeap} {w : World}
/-- Nothing is said of a block any more. -/
theorem Rel.kill (r : Rel G σ H w) {b : Nat} {k : Blk} (hk : H[b]? = some k) : Rel G σ (H.set b { k with live := false }) w ∧ Ext σ H w σ (H.set b { k with live := false }) w := by
  have hlt : b < H.length := (List.getElem?_eq_some_iff.1 hk).1
  have hget : ∀ (b' : Nat) (k' : Blk), (H.set b { k with live := false })[b']? = some k' → k'.live = true → H[b']? = some k' := by
    intro b' k' h h2
    rw [List.getElem?_set] at h
    split at h
    · rename_i e
      subst e
      try rw [if_pos hlt] at h
      cases h
      cases h2
    · exact h
  refine ⟨⟨fun b' k' l' h1 h2 h3 => r.blk b' k' l' (hget _ _ h1 h2) h2 h3, fun b1 b2 k1 k2 l1 l2 h1 h2 h3 g1 g2 g3 => r.inj b1 b2 k1 k2 l1 l2 (hget _ _ h1 h2) h2 h3 (hget _ _ g1 g2) g2 g3, fun b' k' l' h1 h2 h3 => r.apart b' k' l' (hget _ _ h1 h2) h2 h3, r.roLt, fun b' ver l' h => ?_, r.glob, r.base0⟩,
    ⟨rfl, rfl, rfl, Nat.le_refl _, fun _ _ _ h => h, fun _ h => h, fun _ _ _ => rfl, fun _ _ _ h => .inl h, fun b' k' l' h1 h2 h3 => ⟨k', hget _ _ h1 h2, h2, rfl⟩, fun B h => .inl h, by simp⟩⟩
  obtain ⟨k0, a1, a2⟩ := r.fresh b' ver l' h
  by_cases e : b' = b
  · subst e
    rw [hk] at a1
    cases a1
    exact ⟨_, List.getElem?_set_self hlt, a2⟩
  · exact ⟨k0, by rw [List.getElem?_set_ne (fun e' => e e'.symm)]; exact a1, a2⟩
/-- A block is let go of; what lay there may be turned. -/
theorem Rel.gone (r : Rel G σ H w) {b : Nat} {k : Blk} {l : Loc} (hk : H[b]? = some k) (hlv : k.live = true) (hl : σ.ρ b k.ver = some l) {w' : World} (hother : ∀ B, B ≠ l.B → w'.heap[B]? = w.heap[B]?) (hsize : w'.heap.size = w.heap.size) (ho : w'.os = w.os) (ht : w'.tape = w.tape) (hp : w'.output = w.output) :
    Rel G σ (H.set b { k with live := false }) w' ∧ Ext σ H w σ (H.set b { k with live := false }) w' := by
  have hlt : b < H.length := (List.getElem?_eq_some_iff.1 hk).1
  have hro : ∀ B, σ.ro B → w'.heap[B]? = w.heap[B]? := fun B hB => hother B (fun e => r.apart b k l hk hlv hl (e ▸ hB))
  have hm : ∀ x u, AR σ w x u → AR σ w' x u := fun x u h => h.mono (fun _ _ _ h => h) (fun _ h => h) hro
  obtain ⟨r1, x1⟩ := r.kill hk
  refine ⟨⟨fun b' k' l' h1 h2 h3 => ?_, r1.inj, r1.apart, fun B hB => by rw [hsize]; exact r.roLt B hB, r1.fresh, fun g => hm _ _ (r.glob g), r.base0⟩,
    ⟨ho, ht, hp, by rw [hsize]; exact Nat.le_refl _, fun _ _ _ h => h, fun _ h => h, fun B _ hn => hother B (fun e => hn ⟨b, k, l, hk, hlv, hl, e.symm⟩), fun _ _ _ h => .inl h, x1.stay, fun _ h => .inl h, by simp⟩⟩
  have hne : b' ≠ b := by
    rintro rfl
    rw [List.getElem?_set_self hlt] at h1
    cases h1
    cases h2
  have h1' : H[b']? = some k' := by rwa [List.getElem?_set_ne (fun e => hne e.symm)] at h1
  obtain ⟨C, fr, c1, c2, c3, c4, c5⟩ := r1.blk b' k' l' h1 h2 h3
  refine ⟨C, fr, by rw [hother _ (fun e => hne (r.inj b' b k' k l' l h1' h2 h3 hk hlv hl e))]; exact c1, c2, c3, c4, fun j hj => ?_⟩
  obtain ⟨u, d1, d2⟩ := c5 j hj
  exact ⟨u, d1, hm _ _ d2⟩
def aUsd (x : AV) (K : AV → Prop) : Prop :=
  match x with
  | .bsl b v n => K (.usd b v n)
  | _ => False
theorem aUsd_ok {x : AV} {K : AV → Prop} (h : aUsd x K) (ts : Array TypeId) (ty : TypeId) : ∃ r, K r ∧ ∀ (σ : Sig) (w : World) (ux : Value), AR σ w x ux → ∃ u, (Builtin.unsafeSliceData_ ts ty #[ux]).run P w = .ok u w ∧ AR σ w r u := by
  unfold aUsd at h
  split at h
  · refine ⟨_, h, fun σ w ux hx => ?_⟩
    cases hx with
    | bsl0 => exact ⟨_, Lib.run_unsafeSliceData_nil w ts ty 0 0, .usd0 _⟩
    | bsl h h0 hc hl => exact ⟨_, Lib.run_unsafeSliceData_row w ts ty _ _ _ (by omega), .usd h⟩
  · exact h.elim
def u8s (cs : List AV) : Prop := ∀ c ∈ cs, match c with | .v (.int .u8 x) => 0 ≤ x ∧ x ≤ 255 | _ => False
theorem u8s_ints {l : List Int} : u8s (ints .u8 l) ↔ ∀ x ∈ l, 0 ≤ x ∧ x ≤ 255 := by simp [u8s, ints]
def aUst (P : Program) (H : AHeap) (pt : TypeId) (x y : AV) (K : AV → AHeap → Prop) : Prop :=
  match x, y with
  | .usd b ver n, .v (.int .i64 m) => m = n ∧ n ≤ 9223372036854775807 ∧ (match P.underlying pt, H[b]? with
    | some (.pointer e), some k => k.live = true ∧ k.ver = ver ∧ k.elem = e ∧ tsz P e = some 1 ∧ n = k.cells.length ∧ u8s k.cells ∧ ∃ l, k.cells = ints .u8 l ∧ K (.v (.string (strOf l))) (H.set b { k with live := false })
    | _, _ => False)
  | _, _ => False
theorem aUst_ok (G : Glob) {pt it ty : TypeId} {x y : AV} {K : AV → AHeap → Prop} (h : aUst P H pt x y K) :
    ∃ r H', K r H' ∧ ∀ (σ : Sig) (w : World) (ux uy : Value), Rel G σ H w → AR σ w x ux → AR σ w y uy → ∃ u w', (Builtin.unsafeString_ #[pt, it] ty #[ux, uy]).run P w = .ok u w' ∧ Res G false σ H w r H' u w' := by
  unfold aUst at h
  split at h
  · rename_i b ver n m
    obtain ⟨rfl, h63, h⟩ := h
    split at h
    · rename_i e k hp hk
      obtain ⟨hlv, rfl, rfl, hsz, rfl, hb, l, hl, hK⟩ := h
      rw [hl, u8s_ints] at hb
      refine ⟨_, _, hK, fun σ w ux uy r hx hy => ?_⟩
      have hn : k.cells.length = l.length := by rw [hl, ints_length]
      cases hy
      by_cases h0 : l = []
      · subst h0
        obtain ⟨r', x'⟩ := r.kill hk
        have hz : k.cells.length = 0 := by rw [hn]; rfl
        rw [hz] at hx ⊢
        have key : ∀ p : Option Addr, ux = .pointer p → ∃ u w', (Builtin.unsafeString_ #[pt, it] ty #[ux, .int .i64 ((0 : Nat) : Int)]).run P w = .ok u w' ∧ Res G false σ H w (.v (.string (strOf []))) (H.set b { k with live := false }) u w' := by
          rintro p rfl
          refine ⟨_, _, Lib.run_unsafeString_none w pt it ty p, σ, ?_, r', x', fun h => by cases h⟩
          exact .v _
        cases hx with
        | usd0 p => exact key p rfl
        | usd h => exact key _ rfl
      · have hpos : 0 < l.length := List.length_pos_iff.2 h0
        have hx : ∃ l0, σ.ρ b k.ver = some l0 ∧ ux = .pointer (some ⟨l0.B, l0.base, none⟩) := by
          generalize hq : k.cells.length = q at hx
          cases hx with
          | usd0 p => omega
          | usd h => exact ⟨_, h, rfl⟩
        obtain ⟨l0, hρ, rfl⟩ := hx
        have hbase := r.base0 _ _ _ hρ
        obtain ⟨C, fr, c1, c2, c3, c4, c5⟩ := r.blk b k l0 hk hlv hρ
        rw [hbase] at c3 c5 ⊢
        have hs1 : P.cellsOf k.elem = 1 := by
          unfold tsz at hsz
          obtain ⟨i, hi, hi1⟩ := Option.map_eq_some_iff.1 hsz
          simp [Program.cellsOf, hi, hi1]
        have hcell : ∀ (j : Nat) (x : UInt8), (l.map fun n => UInt8.ofNat n.toNat)[j]? = some x → w.cell? ((⟨l0.B, 0, none⟩ : Addr).add j) = some (.int .u8 x.toNat) := by
          intro j x hj
          have hjl : j < l.length := by
            have := (List.getElem?_eq_some_iff.1 hj).1
            simpa using this
          obtain ⟨u, d1, d2⟩ := c5 j (by omega)
          rw [hl, ints_get hjl] at d2
          cases d2
          have hx : x = UInt8.ofNat (l[j]).toNat := by
            rw [List.getElem?_map, List.getElem?_eq_getElem hjl] at hj
            exact (Option.some.inj hj).symm
          have hr := hb l[j] (List.getElem_mem hjl)
          have hv : ((x.toNat : Nat) : Int) = l.getD j 0 := by
            rw [hx, UInt8.toNat_ofNat', List.getD_eq_getElem?_getD, List.getElem?_eq_getElem hjl]
            simp only [Option.getD_some]
            omega
          rw [hv, Addr.add_lit]
          simp only [World.cell?, c1]
          simpa using d1
        have hlen : (l.map fun n => UInt8.ofNat n.toNat).length = k.cells.length := by simp [hn]
        have hrun := Lib.run_unsafeString_row (P := P) w pt it ty k.elem hp hs1 l0.B l0.lim (by simp [World.shape?, c1, c2]) (l.map fun n => UInt8.ofNat n.toNat) (by simpa using h0) (by omega) (by omega) hcell
        rw [hlen] at hrun
        obtain ⟨r', x'⟩ := r.gone hk hlv hρ (w' := w.freeze ⟨l0.B, 0, none⟩ k.cells.length) (fun B hB => by
          unfold World.freeze
          split
          · rfl
          · simp only [Array.getElem?_modify]
            rw [if_neg (fun e => hB e.symm)]) (by unfold World.freeze; split <;> simp) (by unfold World.freeze; split <;> rfl) (by unfold World.freeze; split <;> rfl) (by unfold World.freeze; split <;> rfl)
        exact ⟨_, _, hrun, σ, .v _, r', x', fun h => by cases h⟩
    · exact h.elim
  · exact h.elim
end Go.Abs
