/- append, copy: what they come to. -/
import Derived.Test.YtgmchiadphdlhaaDoorAbsApp
namespace Go.Abs
set_option linter.unusedVariables false
set_option linter.unusedSimpArgs false
variable {P : Program} {G : Glob} {σ : Sig} {H : AHeap} {w : World}
theorem lenOf_slice {A : Option Addr} {n c : Nat} : (Builtin.lenOf (.slice A n c)).run P w = .ok n w := rfl
theorem firstCells_zero {sz n c : Nat} {A : Option Addr} : (Builtin.firstCells sz 0 (.slice A n c)).run P w = .ok #[] w := by
  cases A <;> simp [Builtin.firstCells, loadCells, loadCellsFrom]
theorem size_zero {us : Array Value} {sz : Nat} (h : us.size = 0 * sz) : us = #[] := Array.eq_empty_of_size_eq_zero (by simpa using h)
theorem len_zero {cs : List AV} {sz : Nat} (h : cs.length = 0 * sz) : cs = [] := List.eq_nil_of_length_eq_zero (by simpa using h)
/-- A grown row, where it lay. -/
theorem near_bump (r : Rel G σ H w) {b : Nat} {k : Blk} {l : Loc} (hk : H[b]? = some k) (hlv : k.live = true) (hl : σ.ρ b k.ver = some l) {news : Array Value} {off n m sz cap : Nat} {c1 : List AV} (h2 : news.size = m * sz)
    (hc0 : off + n * sz ≤ k.cells.length) (ho : off = 0) (hcap : n + m ≤ cap) (hlim : l.base + off + cap * sz ≤ l.lim) (l1 : c1.length = m * sz) (h1 : c1.all AV.one = true) (a1 : ∀ j, j < m * sz → AR σ w (c1.getD j .any) (news.getD j undef)) :
    ∃ w', (storeCells ((⟨l.B, l.base + off, none⟩ : Addr).add (n * sz)) news.toList).run P w = .ok () w' ∧
      Res G false σ H w (.sl b (k.ver + 1) 0 (n + m) (n + m) sz false) (H.set b ⟨(k.cells.drop off).take (n * sz) ++ c1, k.ver + 1, true, k.elem⟩) (.slice (some ⟨l.B, l.base + off, none⟩) (n + m) cap) w' := by
  obtain ⟨C, fr, g1, g2, g3, g4, g5⟩ := r.blk b k l hk hlv hl
  have hle : (n + m) * sz ≤ cap * sz := Nat.mul_le_mul_right _ hcap
  rw [Nat.add_mul] at hle
  have hone : ∀ v ∈ news.toList, v.oneCell' = true := ones_of (σ := σ) (w := w) h1 (by simp [h2, l1]) (fun j hj => by
    have := a1 j (by omega)
    simpa [List.getD_eq_getElem?_getD] using this)
  obtain ⟨w', C', e1, e2, e3, e4, e5, e6, e7, e8, e9⟩ := run_storeCells_blk (P := P) (o := l.base + off + n * sz) news.toList 0 C w g1 (by simp only [Array.length_toList]; omega) (by rw [g2]; exact g4) hone
  refine ⟨w', by rw [Addr.add_lit]; exact e1, ?_⟩
  have hlen0 : ((k.cells.drop off).take (n * sz)).length = n * sz := by rw [List.length_take, List.length_drop]; omega
  obtain ⟨p1, p2, p3⟩ := r.bump hk hlv (C := C') (T := k.elem) (fr := fr) (w' := w') ((k.cells.drop off).take (n * sz) ++ c1) ⟨l.B, l.base + off, l.lim⟩ e2 (e3.trans g2) (by show l.base + off + _ ≤ l.lim; rw [List.length_append, hlen0]; omega) g4
    (fun j hj => by
      rw [List.length_append, hlen0] at hj
      rw [e4, List.getD_eq_getElem?_getD, List.getElem?_append, hlen0]
      simp only [Array.length_toList, h2]
      by_cases hjn : j < n * sz
      · rw [if_neg (by omega), if_pos hjn, List.getElem?_take, if_pos hjn, List.getElem?_drop, ← List.getD_eq_getElem?_getD, Nat.add_assoc]
        exact g5 (off + j) (by omega)
      · rw [if_pos (by omega), if_neg hjn, ← List.getD_eq_getElem?_getD, show l.base + off + j - (l.base + off + n * sz + 0) = j - n * sz from by omega, Array.getElem?_toList]
        exact ⟨_, getD_lt (by omega), a1 (j - n * sz) (by omega)⟩)
    (.inr ⟨l, hl, rfl⟩) (by show l.base + off = 0; have := r.base0 _ _ _ hl; omega) (fun B _ hB => e5 B hB) (by rw [e6]; exact Nat.le_refl _) e7 e8 e9
  refine Res.of ?_ p1 p2 (fun h => by cases h)
  exact AR.sl (l := ⟨l.B, l.base + off, l.lim⟩) (if_pos ⟨rfl, rfl⟩) hcap (fun h => by cases h) (by simpa using hlim)
/-- What is appended to a slice that has no more room lies anew. -/
theorem append_new {t u ty : TypeId} {i : TypeInfo} {z : Value} {b off len cap m : Nat} {k : Blk} {c : List AV} {us ux : Value} (r : Rel G σ H w) (ht : P.underlying t = some (.slice k.elem)) (hu : Row P u) (hi : P.info? k.elem = some i) (hz : i.zero = some z) (hzs : z.cells.size = i.size)
    (hk' : H[b]? = some k) (hlv : k.live = true) (hoff : off + len * i.size ≤ k.cells.length) (h63 : len + m ≤ 9223372036854775807) (hb : (len + m) * i.bytes ≤ 140737488355328) (hcl : c.length = m * i.size) (hcap : cap < len + m ∨ cap = 0)
    (hs : AR σ w (.sl b k.ver off len cap i.size true) us) (hx : ∃ news : Array Value, news.size = m * i.size ∧ (∀ j, j < m * i.size → AR σ w (c.getD j .any) (news.getD j undef)) ∧ (∀ w' : World, (Builtin.lenOf ux).run P w' = .ok m w') ∧ (∀ w' : World, w'.heap = w.heap → (Builtin.firstCells i.size m ux).run P w' = .ok news w')) :
    ∃ v w', (Builtin.append_ #[t, u] ty #[us, ux]).run P w = .ok v w' ∧ Res G true σ H w (.sl H.length 0 0 (len + m) (len + m) i.size false) (H ++ [⟨(k.cells.drop off).take (len * i.size) ++ c, 0, true, k.elem⟩]) v w' := by
  obtain ⟨news, n1, n2, n3, n4⟩ := hx
  have hl0 : ((k.cells.drop off).take (len * i.size)).length = len * i.size := by rw [List.length_take, List.length_drop]; omega
  have none0 : ∀ (A : Option Addr), len = 0 → m = 0 → ∃ v w', (Builtin.append_ #[t, u] ty #[.slice A len 0, ux]).run P w = .ok v w' ∧ Res G true σ H w (.sl H.length 0 0 (len + m) (len + m) i.size false) (H ++ [⟨(k.cells.drop off).take (len * i.size) ++ c, 0, true, k.elem⟩]) v w' := by
    rintro A rfl rfl
    obtain ⟨g1, g2⟩ := r.ghost ⟨(k.cells.drop off).take (0 * i.size) ++ c, 0, true, k.elem⟩
    have hn := size_zero n1
    subst hn
    cases A with
    | none => exact ⟨_, _, run_append_none t u ty k.elem i ht hu hi ux #[] 0 0 (n3 w) (n4 w rfl) (Nat.le_refl _), Res.of (.sl0 _) g1 g2 (fun h => ⟨fun _ _ => .same rfl, fun _ _ _ h => .inl h⟩)⟩
    | some a => exact ⟨_, _, run_append_near t u ty k.elem i ht hu hi a 0 0 0 ux #[] (n3 w) (n4 w rfl) (Nat.le_refl _) w (by simp [storeCells]), Res.of (.sl0 _) g1 g2 (fun h => ⟨fun _ _ => .same rfl, fun _ _ _ h => .inl h⟩)⟩
  cases hs with
  | @sl _ _ _ _ _ cap' _ _ l h h1 h2 h3 =>
    have hce := h2 rfl
    subst hce
    by_cases hlt : cap' < len + m
    · obtain ⟨olds, o1, o2, o3⟩ := run_cells_mem (P := P) (r.mem hk' hlv h) off (len * i.size) hoff
      exact ⟨_, _, run_append_far (w := w) t u ty k.elem i z ht hu hi hz (some ⟨l.B, l.base + off, none⟩) len cap' m ux olds news (n3 w) (fun w' hw => by simpa [Builtin.firstCells] using o3 w' hw) n4 (by omega) (by omega) hb,
        far_new r o1 n1 hzs (grownCap_ge w (len + m) cap' k.elem) hl0 hcl (fun j hj => ar_take hoff o2 j (by omega)) n2⟩
    · have hc0 : cap' = 0 := by omega
      subst hc0
      exact none0 _ (by omega) (by omega)
  | sl0 A =>
    by_cases hm : m = 0
    · exact none0 A rfl hm
    · exact ⟨_, _, run_append_far (w := w) t u ty k.elem i z ht hu hi hz A 0 0 m ux #[] news (n3 w) (fun w' _ => firstCells_zero) n4 (by omega) (by omega) (by simpa using hb),
        far_new r (by simp) n1 hzs (grownCap_ge w (0 + m) 0 k.elem) hl0 hcl (fun j hj => by simp at hj) n2⟩
theorem append_newV {t u ty e : TypeId} {i : TypeInfo} {z : Value} {len m : Nat} {cs c : List AV} {cx : Option Nat} {us ux : Value} (r : Rel G σ H w) (ht : P.underlying t = some (.slice e)) (hu : Row P u) (hi : P.info? e = some i) (hz : i.zero = some z) (hzs : z.cells.size = i.size)
    (hl : cs.length = len * i.size) (hb : (len + m) * i.bytes ≤ 140737488355328) (h63 : len + m ≤ 9223372036854775807) (hcx : match cx with | some n => n < len + m ∨ (len = 0 ∧ n = 0) | none => False) (hcl : c.length = m * i.size)
    (hs : AR σ w (.vsl len cs cx) us) (hx : ∃ news : Array Value, news.size = m * i.size ∧ (∀ j, j < m * i.size → AR σ w (c.getD j .any) (news.getD j undef)) ∧ (∀ w' : World, (Builtin.lenOf ux).run P w' = .ok m w') ∧ (∀ w' : World, w'.heap = w.heap → (Builtin.firstCells i.size m ux).run P w' = .ok news w')) :
    ∃ v w', (Builtin.append_ #[t, u] ty #[us, ux]).run P w = .ok v w' ∧ Res G true σ H w (.sl H.length 0 0 (len + m) (len + m) i.size false) (H ++ [⟨cs ++ c, 0, true, e⟩]) v w' := by
  obtain ⟨news, n1, n2, n3, n4⟩ := hx
  have far : ∀ (A : Option Addr) (cap' : Nat) (olds : Array Value), olds.size = len * i.size → (∀ j, j < len * i.size → AR σ w (cs.getD j .any) (olds.getD j undef)) → (∀ w' : World, w'.heap = w.heap → (Builtin.firstCells i.size len (.slice A len cap')).run P w' = .ok olds w') → cap' < len + m →
      ∃ v w', (Builtin.append_ #[t, u] ty #[.slice A len cap', ux]).run P w = .ok v w' ∧ Res G true σ H w (.sl H.length 0 0 (len + m) (len + m) i.size false) (H ++ [⟨cs ++ c, 0, true, e⟩]) v w' :=
    fun A cap' olds o1 o2 o3 hlt => ⟨_, _, run_append_far (w := w) t u ty e i z ht hu hi hz A len cap' m ux olds news (n3 w) o3 n4 hlt (by omega) hb, far_new r o1 n1 hzs (grownCap_ge w (len + m) cap' e) hl hcl o2 n2⟩
  have none0 : ∀ (A : Option Addr), len = 0 → m = 0 → ∃ v w', (Builtin.append_ #[t, u] ty #[.slice A len 0, ux]).run P w = .ok v w' ∧ Res G true σ H w (.sl H.length 0 0 (len + m) (len + m) i.size false) (H ++ [⟨cs ++ c, 0, true, e⟩]) v w' := by
    rintro A rfl rfl
    obtain ⟨g1, g2⟩ := r.ghost ⟨cs ++ c, 0, true, e⟩
    have hn := size_zero n1
    subst hn
    cases A with
    | none => exact ⟨_, _, run_append_none t u ty e i ht hu hi ux #[] 0 0 (n3 w) (n4 w rfl) (Nat.le_refl _), Res.of (.sl0 _) g1 g2 (fun h => ⟨fun _ _ => .same rfl, fun _ _ _ h => .inl h⟩)⟩
    | some a => exact ⟨_, _, run_append_near t u ty e i ht hu hi a 0 0 0 ux #[] (n3 w) (n4 w rfl) (Nat.le_refl _) w (by simp [storeCells]), Res.of (.sl0 _) g1 g2 (fun h => ⟨fun _ _ => .same rfl, fun _ _ _ h => .inl h⟩)⟩
  cases hs with
  | @vsl _ _ _ B o c' uu hr hm ha hle hx' =>
    cases cx with
    | none => exact hcx.elim
    | some n =>
      have hcn := hx' n rfl
      subst hcn
      obtain ⟨olds, o1, o2, o3⟩ := run_cells_mem (P := P) (Mem.of_fun hm ha) 0 (len * i.size) (by omega)
      by_cases hlt : c' < len + m
      · exact far _ _ olds o1 (fun j hj => by simpa using o2 j hj) (fun w' hw => by simpa [Builtin.firstCells] using o3 w' hw) hlt
      · rcases hcx with h | ⟨h1, h2⟩
        · exact absurd h hlt
        · subst h2
          exact none0 _ h1 (by omega)
  | vsl0 A c' hx' =>
    cases cx with
    | none => exact hcx.elim
    | some n =>
      have hcn := hx' n rfl
      subst hcn
      by_cases hlt : c' < 0 + m
      · exact far _ _ #[] (by simp) (fun j hj => by simp at hj) (fun w' hw => firstCells_zero) hlt
      · rcases hcx with h | ⟨h1, h2⟩
        · exact absurd h hlt
        · subst h2
          exact none0 _ h1 (by omega)
set_option maxHeartbeats 1000000 in
theorem append_ok (G : Glob) {t u ty e : TypeId} {i : TypeInfo} {z : Value} (ht : P.underlying t = some (.slice e)) (hu : Row P u) (hi : P.info? e = some i) (hz : i.zero = some z) (hzs : z.cells.size = i.size) {s x : AV} {K : AV → AHeap → Prop}
    (hc : acont H i.size x fun m c => aapp P H e i.size i.bytes s m c K) :
    ∃ r H', K r H' ∧ ∀ (σ : Sig) (w : World) (us ux : Value), Rel G σ H w → AR σ w s us → AR σ w x ux → ∃ v w', (Builtin.append_ #[t, u] ty #[us, ux]).run P w = .ok v w' ∧ Res G false σ H w r H' v w' := by
  obtain ⟨m, c, hs, hcl, hx⟩ := acont_ok (P := P) G hc
  clear hc
  have toF : ∀ {σ : Sig} {w : World} {r : AV} {H' : AHeap} {v : Value} {w' : World}, Res G true σ H w r H' v w' → Res G false σ H w r H' v w' := fun ⟨σ', a, b, c, _⟩ => ⟨σ', a, b, c, fun h => by cases h⟩
  cases s with
  | v y =>
    unfold aapp at hs
    split at hs
    · rename_i e1
      cases e1
      obtain ⟨hb, h63, hK⟩ := hs
      refine ⟨_, _, hK, fun σ w us ux r hs hxr => ?_⟩
      obtain ⟨news, n1, n2, n3, n4⟩ := hx σ w ux r hxr
      cases hs
      rcases Nat.eq_zero_or_pos m with rfl | hm
      · obtain ⟨g1, g2⟩ := r.ghost ⟨c, 0, true, e⟩
        exact ⟨_, _, run_append_none t u ty e i ht hu hi ux news 0 0 (n3 w) (n4 w rfl) (Nat.le_refl _), Res.of (.sl0 _) g1 g2 (fun h => by cases h)⟩
      · refine ⟨_, _, run_append_far (w := w) t u ty e i z ht hu hi hz none 0 0 m ux #[] news (n3 w) (fun w' _ => firstCells_zero) n4 (by omega) (by omega) (by simpa using hb), ?_⟩
        have := toF (far_new (olds := #[]) (n := 0) (sz := i.size) (e := e) (c0 := []) r (by simp) n1 hzs (grownCap_ge w (0 + m) 0 e) (by simp) hcl (fun j hj => by simp at hj) n2)
        simpa using this
    · rename_i e1
      cases e1
    · rename_i e1
      cases e1
    · rename_i e1
      cases e1
    · exact hs.elim
  | vsl len cs cx =>
    obtain ⟨hl, hb, h63, hcx, hK⟩ := hs
    refine ⟨_, _, hK, fun σ w us ux r hs hxr => ?_⟩
    obtain ⟨v, w', h1, h2⟩ := append_newV (P := P) (ty := ty) r ht hu hi hz hzs hl hb h63 hcx hcl hs (hx σ w ux r hxr)
    exact ⟨v, w', h1, toF h2⟩
  | sl b ver off len cap sz' x =>
    obtain ⟨rfl, hb, h63, hk⟩ := hs
    cases hk' : H[b]? with
    | none => simp [hk'] at hk
    | some k =>
      simp only [hk'] at hk
      obtain ⟨hlv, rfl, rfl, hoff, hK⟩ := hk
      have hl0 : ((k.cells.drop off).take (len * i.size)).length = len * i.size := by rw [List.length_take, List.length_drop]; omega
      cases x with
      | false =>
        obtain ⟨ho, hone, hK⟩ := hK
        refine ⟨_, _, hK, fun σ w us ux r hs hxr => ?_⟩
        obtain ⟨news, n1, n2, n3, n4⟩ := hx σ w ux r hxr
        cases hs with
        | @sl _ _ _ _ _ cap' _ _ l h h1 h2 h3 =>
          by_cases hlt : cap' < len + m
          · obtain ⟨olds, o1, o2, o3⟩ := run_cells_mem (P := P) (r.mem hk' hlv h) off (len * i.size) hoff
            exact ⟨_, _, run_append_far (w := w) t u ty k.elem i z ht hu hi hz (some ⟨l.B, l.base + off, none⟩) len cap' m ux olds news (n3 w) (fun w' hw => by simpa [Builtin.firstCells] using o3 w' hw) n4 hlt (by omega) hb,
              far_bump r hk' hlv o1 n1 hzs (grownCap_ge w (len + m) cap' k.elem) hl0 hcl (fun j hj => ar_take hoff o2 j (by omega)) n2⟩
          · obtain ⟨w', s1, s2⟩ := near_bump (P := P) r hk' hlv h n1 hoff ho (show len + m ≤ cap' by omega) h3 hcl hone n2
            exact ⟨_, _, run_append_near t u ty k.elem i ht hu hi ⟨l.B, l.base + off, none⟩ len cap' m ux news (n3 w) (n4 w rfl) (by omega) w' s1, s2⟩
        | sl0 A =>
          by_cases hm : m = 0
          · subst hm
            obtain ⟨g1, g2⟩ := r.ghostBump hk' ⟨(k.cells.drop off).take (0 * i.size) ++ c, k.ver + 1, true, k.elem⟩ (Nat.lt_succ_self _)
            have hn := size_zero n1
            subst hn
            cases A with
            | none => exact ⟨_, _, run_append_none t u ty k.elem i ht hu hi ux #[] 0 0 (n3 w) (n4 w rfl) (Nat.le_refl _), Res.of (.sl0 _) g1 g2 (fun h => by cases h)⟩
            | some a => exact ⟨_, _, run_append_near t u ty k.elem i ht hu hi a 0 0 0 ux #[] (n3 w) (n4 w rfl) (Nat.le_refl _) w (by simp [storeCells]), Res.of (.sl0 _) g1 g2 (fun h => by cases h)⟩
          · exact ⟨_, _, run_append_far (w := w) t u ty k.elem i z ht hu hi hz A 0 0 m ux #[] news (n3 w) (fun w' _ => firstCells_zero) n4 (by omega) (by omega) (by simpa using hb),
              far_bump r hk' hlv (by simp) n1 hzs (grownCap_ge w (0 + m) 0 k.elem) hl0 hcl (fun j hj => by simp at hj) n2⟩
      | true =>
        by_cases hcap : len + m ≤ cap ∧ 0 < cap
        · rw [if_pos hcap] at hK
          obtain ⟨hoc, hone, hK⟩ := hK
          refine ⟨_, _, hK, fun σ w us ux r hs hxr => ?_⟩
          obtain ⟨news, n1, n2, n3, n4⟩ := hx σ w ux r hxr
          obtain ⟨hcap, hcap0⟩ := hcap
          have hle : (len + m) * i.size ≤ cap * i.size := Nat.mul_le_mul_right _ hcap
          rw [Nat.add_mul] at hle
          have hou : ∀ v ∈ news.toList, v.oneCell' = true := ones_of (σ := σ) (w := w) hone (by simp [n1, hcl]) (fun j hj => by
            have := n2 j (by omega)
            simpa [List.getD_eq_getElem?_getD] using this)
          cases hs with
          | @sl _ _ _ _ _ cap' _ _ l h h1 h2 h3 =>
            have hce := h2 rfl
            subst hce
            obtain ⟨w', s1, s2, s3, s4⟩ := r.store (P := P) hk' hlv h (off + len * i.size) c news.toList (by simp [n1, hcl]) (by omega) hou (fun j hj => by
              have := n2 j (by omega)
              simpa [List.getD_eq_getElem?_getD] using this)
            exact ⟨_, _, run_append_near t u ty k.elem i ht hu hi ⟨l.B, l.base + off, none⟩ len cap' m ux news (n3 w) (n4 w rfl) hcap w' (by rw [Addr.add_lit, Nat.add_assoc]; exact s1), Res.of (s4 _ _ (.sl h (Nat.le_refl _) (fun _ => rfl) h3)) s2 s3 (fun h => by cases h)⟩
          | sl0 A =>
            obtain rfl : m = 0 := by omega
            have hn := size_zero n1
            subst hn
            have hcn := len_zero hcl
            subst hcn
            have hset : H.set b { k with cells := splice k.cells (off + 0 * i.size) [] } = H := by
              rw [splice_nil]
              exact set_same hk'
            rw [hset]
            cases A with
            | none => exact ⟨_, _, run_append_none t u ty k.elem i ht hu hi ux #[] 0 0 (n3 w) (n4 w rfl) (Nat.le_refl _), Res.same r (.sl0 _)⟩
            | some a => exact ⟨_, _, run_append_near t u ty k.elem i ht hu hi a 0 0 0 ux #[] (n3 w) (n4 w rfl) (Nat.le_refl _) w (by simp [storeCells]), Res.same r (.sl0 _)⟩
        · rw [if_neg hcap] at hK
          refine ⟨_, _, hK, fun σ w us ux r hs hxr => ?_⟩
          obtain ⟨v, w', h1, h2⟩ := append_new (P := P) (ty := ty) r ht hu hi hz hzs hk' hlv hoff h63 hb hcl (by omega) hs (hx σ w ux r hxr)
          exact ⟨v, w', h1, toF h2⟩
  | bsl b ver n =>
    obtain ⟨hsz1, hb, h63, hk⟩ := hs
    cases hk' : H[b]? with
    | none => simp [hk'] at hk
    | some k =>
      simp only [hk'] at hk
      obtain ⟨hlv, rfl, rfl, hn, hone, hK⟩ := hk
      have hoff : 0 + n * i.size ≤ k.cells.length := by rw [hsz1]; omega
      have e1 : k.cells.take n = (k.cells.drop 0).take (n * i.size) := by rw [hsz1, Nat.mul_one, List.drop_zero]
      have hl0 : ((k.cells.drop 0).take (n * i.size)).length = n * i.size := by rw [List.length_take, List.length_drop]; omega
      have toB : ∀ {σ : Sig} {w : World} {A : Option Addr} {N c : Nat} {w' : World} {H' : AHeap}, 0 < c → Res G false σ H w (.sl b (k.ver + 1) 0 (n + m) (n + m) i.size false) H' (.slice A N c) w' → Res G false σ H w (.bsl b (k.ver + 1) (n + m)) H' (.slice A N c) w' := by
        rintro σ w A N c w' H' h0 ⟨σ', a, c, d, e⟩
        refine ⟨σ', ?_, c, d, e⟩
        generalize hq : n + m = q at *
        cases a with
        | @sl _ _ _ _ _ cap' _ _ l hρ g1 g2 g3 =>
          rw [hsz1, Nat.mul_one, Nat.add_zero] at g3
          simpa using AR.bsl hρ h0 g1 g3
        | sl0 A => omega
      rw [e1] at hK
      refine ⟨_, _, hK, fun σ w us ux r hs hxr => ?_⟩
      obtain ⟨news, n1, n2, n3, n4⟩ := hx σ w ux r hxr
      cases hs with
      | bsl0 =>
        by_cases hm : m = 0
        · subst hm
          obtain ⟨g1, g2⟩ := r.ghostBump hk' ⟨(k.cells.drop 0).take (0 * i.size) ++ c, k.ver + 1, true, k.elem⟩ (Nat.lt_succ_self _)
          have hn := size_zero n1
          subst hn
          exact ⟨_, _, run_append_none t u ty k.elem i ht hu hi ux #[] 0 0 (n3 w) (n4 w rfl) (Nat.le_refl _), Res.of .bsl0 g1 g2 (fun h => by cases h)⟩
        · exact ⟨_, _, run_append_far (w := w) t u ty k.elem i z ht hu hi hz none 0 0 m ux #[] news (n3 w) (fun w' _ => firstCells_zero) n4 (by omega) (by omega) (by simpa using hb),
            toB (Nat.lt_of_lt_of_le (by omega) (grownCap_ge w (0 + m) 0 k.elem)) (far_bump r hk' hlv (by simp) n1 hzs (grownCap_ge w (0 + m) 0 k.elem) hl0 hcl (fun j hj => by simp at hj) n2)⟩
      | @bsl _ _ _ cap' l h h0 h1 h3 =>
        by_cases hlt : cap' < n + m
        · obtain ⟨olds, o1, o2, o3⟩ := run_cells_mem (P := P) (r.mem hk' hlv h) 0 (n * i.size) hoff
          exact ⟨_, _, run_append_far (w := w) t u ty k.elem i z ht hu hi hz (some ⟨l.B, l.base, none⟩) n cap' m ux olds news (n3 w) (fun w' hw => by simpa [Builtin.firstCells] using o3 w' hw) n4 hlt (by omega) hb,
            toB (Nat.lt_of_lt_of_le (by omega) (grownCap_ge w (n + m) cap' k.elem)) (far_bump r hk' hlv o1 n1 hzs (grownCap_ge w (n + m) cap' k.elem) hl0 hcl (fun j hj => ar_take hoff o2 j (by omega)) n2)⟩
        · obtain ⟨w', s1, s2⟩ := near_bump (P := P) r hk' hlv h n1 hoff rfl (show n + m ≤ cap' by omega) (by rw [hsz1]; omega) hcl hone n2
          exact ⟨_, _, run_append_near t u ty k.elem i ht hu hi ⟨l.B, l.base, none⟩ n cap' m ux news (n3 w) (n4 w rfl) (by omega) w' s1, toB h0 s2⟩
  | _ => exact hs.elim
theorem appendQ_ok (G : Glob) {t u ty e : TypeId} {i : TypeInfo} {z : Value} (ht : P.underlying t = some (.slice e)) (hu : Row P u) (hi : P.info? e = some i) (hz : i.zero = some z) (hzs : z.cells.size = i.size) {s x : AV} {K : AV → AHeap → Prop}
    (hc : acont H i.size x fun m c => aappQ P H e i.size i.bytes s m c K) :
    ∃ r H', K r H' ∧ (∃ N, H' = H ++ N) ∧ ∀ (σ : Sig) (w : World) (us ux : Value), Rel G σ H w → AR σ w s us → AR σ w x ux → ∃ v w', (Builtin.append_ #[t, u] ty #[us, ux]).run P w = .ok v w' ∧ Res G true σ H w r H' v w' := by
  obtain ⟨m, c, hs, hcl, hx⟩ := acont_ok (P := P) G hc
  clear hc
  cases s with
  | sl b ver off len cap sz' x =>
    cases x with
    | false => exact hs.elim
    | true =>
      obtain ⟨rfl, hb, h63, hk⟩ := hs
      cases hk' : H[b]? with
      | none => simp [hk'] at hk
      | some k =>
        simp only [hk'] at hk
        obtain ⟨hlv, rfl, rfl, hoff, hcap, hK⟩ := hk
        exact ⟨_, _, hK, ⟨_, rfl⟩, fun σ w us ux r hs hxr => append_new (P := P) (ty := ty) r ht hu hi hz hzs hk' hlv hoff h63 hb hcl hcap hs (hx σ w ux r hxr)⟩
  | vsl len cs cx =>
    obtain ⟨hl, hb, h63, hcx, hK⟩ := hs
    exact ⟨_, _, hK, ⟨_, rfl⟩, fun σ w us ux r hs hxr => append_newV (P := P) (ty := ty) r ht hu hi hz hzs hl hb h63 hcx hcl hs (hx σ w ux r hxr)⟩
  | _ => exact hs.elim
/-- Noughts behind nothing. -/
def aappZ (P : Program) (H : AHeap) (e : TypeId) (sz by' : Nat) (z : Value) (s x : AV) (K : AV → AHeap → Prop) : Prop :=
  match s, x with
  | .v (.slice none 0 0), .v (.int _ n) => 0 < n ∧ n * by' ≤ 140737488355328 ∧ n ≤ 9223372036854775807 ∧ K (.sl H.length 0 0 n.toNat n.toNat sz false) (H ++ [⟨(List.replicate n.toNat (z.cells.toList.map .v)).flatten, 0, true, e⟩])
  | .sl b ver off len cap sz' false, .v (.int _ n) => sz' = sz ∧ 0 < n ∧ 0 < len ∧ (len + n.toNat) * by' ≤ 140737488355328 ∧ len + n.toNat ≤ 9223372036854775807 ∧ n ≤ 9223372036854775807 ∧ z.oneCell' = true ∧ sz = 1 ∧ off = 0 ∧ match H[b]? with
    | some k => k.live = true ∧ k.ver = ver ∧ k.elem = e ∧ off + len ≤ k.cells.length ∧ K (.sl b (ver + 1) 0 (len + n.toNat) (len + n.toNat) sz false) (H.set b ⟨(k.cells.drop off).take len ++ List.replicate n.toNat (.v z), ver + 1, true, e⟩)
    | none => False
  | _, _ => False
def isIntT (P : Program) (u : TypeId) : Bool := match P.underlying u with | some (.int _) => true | _ => false
set_option maxHeartbeats 1000000 in
theorem run_append_zeros (t u ty e : TypeId) (i : TypeInfo) (z : Value) (k k' : IntKind) (ht : P.underlying t = some (.slice e)) (hu : P.underlying u = some (.int k)) (hi : P.info? e = some i) (hz : i.zero = some z) (hzs : z.cells.size = i.size)
    (n : Nat) (hn : 0 < n) (h63 : n ≤ 9223372036854775807) (hfit : n * i.bytes ≤ 140737488355328) :
    (Builtin.append_ #[t, u] ty #[.slice none 0 0, .int k' n]).run P w =
      .ok (.slice (some ⟨w.heap.size, 0, none⟩) (0 + n) (grownCap w (0 + n) 0 e)) (w.drew.alloc (.cells (#[] ++ Builtin.zeroCells z.cells n ++ Builtin.zeroCells z.cells (grownCap w (0 + n) 0 e - (0 + n))) e)) := by
  have hw : IntKind.i64.wrap (n : Int) = n := by rw [IntKind.wrap_i64]; omega
  have hf := growslice_fits (bytes := i.bytes) hn hfit
  have h48' : ¬ (281474976710656 < Builtin.nextslicecap n 0 * i.bytes) := by omega
  have hb : ¬ (281474976710656 < (n : Int) * (i.bytes : Int)) := by
    have h := Int.ofNat_le.2 hfit
    rw [Int.natCast_mul] at h
    exact Int.not_lt.2 h |> fun h => fun h' => by
      have h2 : ((140737488355328 : Nat) : Int) = 140737488355328 := rfl
      rw [h2] at h
      generalize (n : Int) * (i.bytes : Int) = q at *
      omega
  have hn1 : ¬ (n ≤ 0) := by omega
  have hn2 : ¬ ((n : Int) < 0) := by omega
  have hn3 : ¬ (9223372036854775807 < (n : Int)) := by omega
  have hz0 : i.size = 0 → Builtin.zeroCells z.cells n = #[] := fun h0 => by
    apply Array.eq_empty_of_size_eq_zero
    rw [size_zeroCells, hzs, h0, Nat.mul_zero]
  by_cases h0 : n = 0 ∨ i.size = 0
  · have h1 : i.size = 0 := by omega
    simp [Builtin.append_, run_underlying ht, run_underlying hu, sizeOf, typeInfo, zeroValue, hi, hz, asInt, asIntOf, hw, hn1, hn2, hn3, hb, h48', Question.forced, newRow, grownCap, h1, hz0 h1, Builtin.firstCells]
    omega
  · simp only [not_or] at h0
    simp [Builtin.append_, run_underlying ht, run_underlying hu, sizeOf, typeInfo, zeroValue, hi, hz, asInt, asIntOf, hw, hn1, hn2, hn3, hb, h48', Question.forced, newRow, grownCap, h0.1, h0.2, Builtin.firstCells]
    exact fun h => absurd h (Nat.mul_ne_zero h0.1 h0.2)
set_option maxHeartbeats 1000000 in
theorem run_appendZ_far (t u ty e : TypeId) (i : TypeInfo) (z : Value) (k k' : IntKind) (ht : P.underlying t = some (.slice e)) (hu : P.underlying u = some (.int k)) (hi : P.info? e = some i) (hz : i.zero = some z) (hzs : z.cells.size = i.size) (h1 : i.size = 1)
    (base : Option Addr) (sLen sCap n : Nat) (olds : Array Value) (holds : ∀ w' : World, w'.heap = w.heap → (Builtin.firstCells i.size sLen (.slice base sLen sCap)).run P w' = .ok olds w') (hn : 0 < n) (hg : sCap < sLen + n) (h63 : ((sLen + n : Nat) : Int) ≤ 9223372036854775807) (hfit : (sLen + n) * i.bytes ≤ 140737488355328) :
    (Builtin.append_ #[t, u] ty #[.slice base sLen sCap, .int k' n]).run P w =
      .ok (.slice (some ⟨w.heap.size, 0, none⟩) (sLen + n) (grownCap w (sLen + n) sCap e)) (w.drew.alloc (.cells (olds ++ Builtin.zeroCells z.cells n ++ Builtin.zeroCells z.cells (grownCap w (sLen + n) sCap e - (sLen + n))) e)) := by
  have hw : IntKind.i64.wrap (n : Int) = n := by rw [IntKind.wrap_i64]; omega
  have hf := growslice_fits (bytes := i.bytes) hg hfit
  have h48' : ¬ (281474976710656 < Builtin.nextslicecap (sLen + n) sCap * i.bytes) := by omega
  have hle : n * i.bytes ≤ (sLen + n) * i.bytes := Nat.mul_le_mul_right _ (by omega)
  have hb : ¬ (281474976710656 < (n : Int) * (i.bytes : Int)) := by
    have h := Int.ofNat_le.2 (Nat.le_trans hle hfit)
    rw [Int.natCast_mul] at h
    exact Int.not_lt.2 h |> fun h => fun h' => by
      have h2 : ((140737488355328 : Nat) : Int) = 140737488355328 := rfl
      rw [h2] at h
      generalize (n : Int) * (i.bytes : Int) = q at *
      omega
  have hn1 : ¬ (sLen + n ≤ sCap) := by omega
  have hn2 : ¬ ((n : Int) < 0) := by omega
  have hn3 : ¬ (9223372036854775807 < ((sLen : Int) + (n : Int))) := by omega
  have hn0 : ¬ n = 0 := by omega
  have a1 := holds w.drew rfl
  rw [h1] at a1
  simp [Builtin.append_, run_underlying ht, run_underlying hu, sizeOf, typeInfo, zeroValue, hi, hz, asInt, asIntOf, hw, hn1, hn2, hn3, hb, h48', Question.forced, newRow, grownCap, h1, hn0, a1]
set_option maxHeartbeats 1000000 in
theorem run_appendZ_near (t u ty e : TypeId) (i : TypeInfo) (z : Value) (k k' : IntKind) (ht : P.underlying t = some (.slice e)) (hu : P.underlying u = some (.int k)) (hi : P.info? e = some i) (hz : i.zero = some z) (h1 : i.size = 1)
    (a : Addr) (sLen sCap n : Nat) (hn : 0 < n) (hg : sLen + n ≤ sCap) (h63 : ((sLen + n : Nat) : Int) ≤ 9223372036854775807) (hfit : (sLen + n) * i.bytes ≤ 140737488355328)
    (w' : World) (hst : (storeCells (a.add (sLen * i.size)) (Builtin.zeroCells z.cells n).toList).run P w = .ok () w') :
    (Builtin.append_ #[t, u] ty #[.slice (some a) sLen sCap, .int k' n]).run P w = .ok (.slice (some a) (sLen + n) sCap) w' := by
  have hw : IntKind.i64.wrap (n : Int) = n := by rw [IntKind.wrap_i64]; omega
  have hle : n * i.bytes ≤ (sLen + n) * i.bytes := Nat.mul_le_mul_right _ (by omega)
  have hb : ¬ (281474976710656 < (n : Int) * (i.bytes : Int)) := by
    have h := Int.ofNat_le.2 (Nat.le_trans hle hfit)
    rw [Int.natCast_mul] at h
    exact Int.not_lt.2 h |> fun h => fun h' => by
      have h2 : ((140737488355328 : Nat) : Int) = 140737488355328 := rfl
      rw [h2] at h
      generalize (n : Int) * (i.bytes : Int) = q at *
      omega
  have hn2 : ¬ ((n : Int) < 0) := by omega
  have hn0 : ¬ n = 0 := by omega
  rw [h1] at hst
  simp [Builtin.append_, run_underlying ht, run_underlying hu, sizeOf, typeInfo, zeroValue, hi, hz, asInt, asIntOf, hw, hg, hn2, hb, h1, hn0] at hst ⊢
  simp [hst]
theorem zeros_get {z : Array Value} {n j : Nat} (h : j < n * z.size) : (Builtin.zeroCells z n)[j]? = some (z.getD (j % z.size) undef) := by
  have hz : 0 < z.size := Nat.pos_of_ne_zero fun e => by simp [e] at h
  have : j % z.size < z.size := Nat.mod_lt _ hz
  simp [Builtin.zeroCells, h, this]
theorem zrow_get {α : Type} {k : Nat} (z : List α) : ∀ (m : Nat) (j : Nat), z.length = k → j < m * k → ((List.replicate m z).flatten)[j]? = z[j % k]?
  | 0, j, _, h => by simp at h
  | m + 1, j, hz, h => by
    rw [List.replicate_succ, List.flatten_cons, List.getElem?_append]
    split
    · rw [Nat.mod_eq_of_lt (by omega)]
    · rename_i hj
      rw [Nat.add_mul, Nat.one_mul] at h
      rw [zrow_get z m (j - z.length) hz (by omega), hz, ← Nat.mod_eq_sub_mod (by omega)]
theorem appendZ_ok (G : Glob) {t u ty e : TypeId} {i : TypeInfo} {z : Value} (ht : P.underlying t = some (.slice e)) (hu : isIntT P u = true) (hi : P.info? e = some i) (hz : i.zero = some z) (hzs : z.cells.size = i.size) {s x : AV} {K : AV → AHeap → Prop}
    (hc : aappZ P H e i.size i.bytes z s x K) :
    ∃ r H', K r H' ∧ ∀ (σ : Sig) (w : World) (us ux : Value), Rel G σ H w → AR σ w s us → AR σ w x ux → ∃ v w', (Builtin.append_ #[t, u] ty #[us, ux]).run P w = .ok v w' ∧ Res G false σ H w r H' v w' := by
  unfold aappZ at hc
  split at hc
  · rename_i k n
    obtain ⟨h0, h1, h2, hK⟩ := hc
    obtain ⟨m, rfl⟩ : ∃ m : Nat, n = m := ⟨n.toNat, by omega⟩
    rw [Int.toNat_natCast] at hK
    obtain ⟨k2, hu2⟩ : ∃ k2, P.underlying u = some (.int k2) := by
      unfold isIntT at hu
      split at hu
      · exact ⟨_, by assumption⟩
      · cases hu
    have h1' : m * i.bytes ≤ 140737488355328 := Int.ofNat_le.1 (by rw [Int.natCast_mul]; exact h1)
    have h2' : m ≤ 9223372036854775807 := Int.ofNat_le.1 h2
    have h0' : 0 < m := Int.ofNat_lt.1 h0
    refine ⟨_, _, hK, fun σ w us ux r hs hx => ?_⟩
    cases hs
    cases hx
    refine ⟨_, _, run_append_zeros (w := w) t u ty e i z k2 k ht hu2 hi hz hzs m h0' h2' h1', ?_⟩
    have hf : ((List.replicate m (z.cells.toList.map AV.v)).flatten).length = m * i.size := by
      simp [List.length_flatten, hzs]
    obtain ⟨σ', a, b, c, _⟩ := far_new (olds := #[]) (news := Builtin.zeroCells z.cells m) (n := 0) (m := m) (sz := i.size) (e := e) (c0 := []) (c1 := (List.replicate m (z.cells.toList.map AV.v)).flatten) r (by simp) (by rw [size_zeroCells, hzs]) hzs (grownCap_ge w (0 + m) 0 e) (by simp) hf (fun j hj => by simp at hj) (fun j hj => by
      have hj' : j < m * z.cells.size := by rw [hzs]; exact hj
      have hsz : 0 < z.cells.size := Nat.pos_of_ne_zero fun e => by simp [e] at hj'
      have hlt : j % z.cells.size < z.cells.size := Nat.mod_lt _ hsz
      rw [List.getD_eq_getElem?_getD, zrow_get (k := i.size) _ m j (by simp [hzs]) hj, Array.getD_eq_getD_getElem?, zeros_get hj', ← hzs, List.getElem?_map, Array.getElem?_toList, Array.getElem?_eq_getElem hlt]
      simp only [Option.map_some, Option.getD_some, Array.getD_eq_getD_getElem?, Array.getElem?_eq_getElem hlt]
      exact .v _)
    refine ⟨σ', ?_, ?_, c, fun h => by cases h⟩
    · simpa using a
    · simpa using b
  · rename_i b ver off len cap sz' k n
    obtain ⟨rfl, h0, hlen, hb, h63, hn63, hone, hsz1, ho, hk⟩ := hc
    obtain ⟨m, rfl⟩ : ∃ m : Nat, n = m := ⟨n.toNat, by omega⟩
    rw [Int.toNat_natCast] at hb h63 hk
    obtain ⟨k2, hu2⟩ : ∃ k2, P.underlying u = some (.int k2) := by
      unfold isIntT at hu
      split at hu
      · exact ⟨_, by assumption⟩
      · cases hu
    have h0' : 0 < m := Int.ofNat_lt.1 h0
    have h63' : ((len + m : Nat) : Int) ≤ 9223372036854775807 := by omega
    cases hk' : H[b]? with
    | none => simp [hk'] at hk
    | some kb =>
      simp only [hk'] at hk
      obtain ⟨hlv, rfl, rfl, hoff, hK⟩ := hk
      have hoff' : off + len * i.size ≤ kb.cells.length := by rw [hsz1]; omega
      have e1 : (kb.cells.drop off).take len = (kb.cells.drop off).take (len * i.size) := by rw [hsz1, Nat.mul_one]
      have hl0 : ((kb.cells.drop off).take (len * i.size)).length = len * i.size := by rw [List.length_take, List.length_drop]; omega
      have hzc : z.cells.size = 1 := hzs.trans hsz1
      have hcl : (List.replicate m (AV.v z)).length = m * i.size := by simp [hsz1]
      have hzv : z.cells = #[z] := by cases z <;> first | rfl | (simp [Value.oneCell'] at hone)
      have hn2 : ∀ (σ : Sig) (w : World), ∀ j, j < m * i.size → AR σ w ((List.replicate m (AV.v z)).getD j .any) ((Builtin.zeroCells z.cells m).getD j undef) := fun σ w j hj => by
        rw [hsz1, Nat.mul_one] at hj
        have hz1 : j < m * z.cells.size := by rw [hzc]; omega
        rw [Array.getD_eq_getD_getElem?, zeros_get hz1, hzc, Nat.mod_one, hzv]
        simp [List.getD_eq_getElem?_getD, hj]
        exact .v _
      have hal : (List.replicate m (AV.v z)).all AV.one = true := by
        rw [List.all_eq_true]
        intro x hx
        rw [List.eq_of_mem_replicate hx]
        exact hone
      have hzn : (Builtin.zeroCells z.cells m).size = m * i.size := by rw [size_zeroCells, hzs]
      rw [e1] at hK
      refine ⟨_, _, hK, fun σ w us ux r hs hx => ?_⟩
      cases hx
      cases hs with
      | @sl _ _ _ _ _ cap' _ _ l h h1 h2 h3 =>
        by_cases hlt : cap' < len + m
        · obtain ⟨olds, o1, o2, o3⟩ := run_cells_mem (P := P) (r.mem hk' hlv h) off (len * i.size) hoff'
          exact ⟨_, _, run_appendZ_far (w := w) t u ty kb.elem i z k2 k ht hu2 hi hz hzs hsz1 (some ⟨l.B, l.base + off, none⟩) len cap' m olds (fun w' hw => by simpa [Builtin.firstCells] using o3 w' hw) h0' hlt h63' hb,
            far_bump r hk' hlv o1 hzn hzs (grownCap_ge w (len + m) cap' kb.elem) hl0 hcl (fun j hj => ar_take hoff' o2 j (by omega)) (hn2 σ w)⟩
        · obtain ⟨w', s1, s2⟩ := near_bump (P := P) r hk' hlv h hzn hoff' ho (show len + m ≤ cap' by omega) h3 hcl hal (hn2 σ w)
          exact ⟨_, _, run_appendZ_near t u ty kb.elem i z k2 k ht hu2 hi hz hsz1 ⟨l.B, l.base + off, none⟩ len cap' m h0' (by omega) h63' hb w' s1, s2⟩
      | sl0 A => omega
  · exact hc.elim
end Go.Abs
