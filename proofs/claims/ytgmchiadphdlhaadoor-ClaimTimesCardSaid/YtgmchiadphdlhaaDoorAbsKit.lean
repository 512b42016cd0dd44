/- Words for evaluating. -/
import Derived.LoopN
import Derived.Test.YtgmchiadphdlhaaDoorAbsLean
namespace Go.Abs
set_option linter.unusedVariables false
def zArr (k : IntKind) (n : Nat) : Value := .agg (List.replicate n (Value.int k 0)).toArray
@[go_sem] theorem zArr_cells (k : IntKind) (n : Nat) : (zArr k n).cells.toList.map AV.v = ints k (List.replicate n 0) := by
  simp [zArr, Value.cells, ints, List.map_replicate]
@[go_sem] theorem zArr_size (k : IntKind) (n : Nat) : (zArr k n).cells.size = n := by simp [zArr, Value.cells]
theorem NR.ints (k : IntKind) (l : List Int) : ∀ c ∈ ints k l, NR c := by
  intro c hc
  simp only [Go.Abs.ints, List.mem_map] at hc
  obtain ⟨n, _, rfl⟩ := hc
  exact .v _
/-- A number is read. -/
theorem rdP_ints {P : Program} {t : TypeId} {k k' : IntKind} (h : P.underlying t = some (.int k')) (l : List Int) (off : Nat) (K : AV → Prop) : rdP P t (ints k l) off K = (off < l.length ∧ K (.v (.int k (l.getD off 0)))) := by
  unfold rdP
  rw [h]
  simp only [ints_length]
  apply propext
  constructor
  · rintro ⟨h1, h2⟩
    rw [ints_get h1] at h2
    exact ⟨h1, h2⟩
  · rintro ⟨h1, h2⟩
    rw [ints_get h1]
    exact ⟨h1, h2⟩
def isRow : Option TypeDesc → Bool
  | some (.struct _) | some (.array _ _) => true
  | _ => false
def isFlat : Option TypeDesc → Bool
  | some (.struct _) | some (.array _ _) | none => false
  | _ => true
/-- No row: read as it is. -/
theorem rdP_flat {P : Program} {t : TypeId} (h : isFlat (P.underlying t) = true) (cs : List AV) (off : Nat) (K : AV → Prop) : rdP P t cs off K = (off < cs.length ∧ K (cs.getD off .any)) := by
  unfold rdP
  cases hd : P.underlying t with
  | none => simp [hd, isFlat] at h
  | some d => cases d <;> simp_all [isFlat]
/-- A row is read. -/
theorem rdP_row {P : Program} {t : TypeId} (h : isRow (P.underlying t) = true) (hs : (tsz P t).isSome = true) (cs : List AV) (off : Nat) (K : AV → Prop) : rdP P t cs off K = (off + (tsz P t).getD 0 ≤ cs.length ∧ K (.agg ((cs.drop off).take ((tsz P t).getD 0)))) := by
  obtain ⟨n, hn⟩ := Option.isSome_iff_exists.1 hs
  unfold rdP
  rw [hn]
  cases hd : P.underlying t with
  | none => simp [hd, isRow] at h
  | some d => cases d <;> simp_all [isRow]
theorem ints_take (k : IntKind) (l : List Int) (n : Nat) : (ints k l).take n = ints k (l.take n) := by simp [ints, List.map_take]
theorem ints_drop (k : IntKind) (l : List Int) (n : Nat) : (ints k l).drop n = ints k (l.drop n) := by simp [ints, List.map_drop]
theorem ints_append (k : IntKind) (l m : List Int) : ints k l ++ ints k m = ints k (l ++ m) := by simp [ints]
theorem splice_ints {k : IntKind} {l : List Int} {off : Nat} {x : Int} (h : off < l.length) : splice (ints k l) off [.v (.int k x)] = ints k (l.set off x) := by
  apply List.ext_getElem?
  intro j
  rw [splice_get (by simp [ints_length]; omega)]
  simp only [List.length_singleton, ints, List.getElem?_map, List.getElem?_set]
  by_cases hj : off = j
  · subst hj
    simp [h]
  · rw [if_neg (by omega), if_neg hj]
/-- A row is written whole. -/
theorem splice_all {cs c : List AV} (h : c.length = cs.length) : splice cs 0 c = c := by
  simp [splice, h]
theorem ints_one (k : IntKind) (l : List Int) : (ints k l).all AV.one = true := by
  simp [ints, AV.one, Value.oneCell']
variable {P : Program} {G : Glob} {t : List AV} {H : AHeap} {Q : APost}
theorem lops_nil {q : Bool} {K : List AV → AHeap → Prop} (h : K t H) : lops P G q [] t H K := h
theorem lavc_reg {pre post : List LOp} (h : lops P G true pre t H fun t' H' => lops P G false post t' H' (Q .normal)) : lavc P G (.reg pre post) t H Q := lavc_reg0 (lreg_go h)
theorem lavc_reg_fz (bs : List Nat) {pre post : List LOp} (h : afz bs t H fun t H => lops P G true pre t H fun t' H' => lops P G false post t' H' (Q .normal)) : lavc P G (.reg pre post) t H Q := lavc_reg0 (lreg_fz bs h)
def lputs : List AV → List LOp → List AV → List AV
  | t, o :: ls, v :: vs => lputs (tput t o.d v) ls vs
  | t, _, _ => t
theorem lputs_length : ∀ (t : List AV) (ls : List LOp) (vs : List AV), (lputs t ls vs).length = t.length
  | t, o :: ls, v :: vs => by rw [lputs, lputs_length, tput_length]
  | t, [], _ => by simp [lputs]
  | t, _ :: _, [] => by simp [lputs]
theorem lputs_same : ∀ (t : List AV) (ls : List LOp) (vs : List AV) (s : Nat), (∀ o ∈ ls, o.d ≠ some s) → (lputs t ls vs).getD s .any = t.getD s .any
  | t, o :: ls, v :: vs, s, h => by
    rw [lputs, lputs_same _ ls vs s (fun p hp => h p (List.mem_cons_of_mem _ hp))]
    have hd := h o (List.mem_cons_self ..)
    cases hod : o.d with
    | none => rfl
    | some d =>
      rw [hod] at hd
      have hne : d ≠ s := fun e => hd (by rw [e])
      simp only [tput, List.getD_eq_getElem?_getD]
      rw [List.getElem?_set_ne hne]
  | t, [], _, _, _ => by simp [lputs]
  | t, _ :: _, [], _, _ => by simp [lputs]
/-- Late operations, whose results are told. -/
theorem lavc_late (hG : GN G) (vs : List AV) {ls pre mid post : List LOp} (hf : lfrees P G (lputs t ls vs) ls)
    (h : lops P G true pre (lputs t ls vs) H fun t' H' => lopsN P G mid t' H' fun t' H' => lopsN P G post t' H' (Q .normal)) : lavc P G (.regl ls pre mid post) t H Q :=
  lavc_regl hG _ (lputs_length _ _ _) (lputs_same _ _ _) hf h
theorem lavc_lateq (vs : List AV) {ls pre mid post : List LOp} (hf : lfreesAt P G (lputs t ls vs) ls H)
    (h : lops P G true pre (lputs t ls vs) H fun t' H' => lopsF P G (lfreesAt P G (lputs t ls vs) ls) mid t' H' fun t' H' => lopsN P G post t' H' (Q .normal)) : lavc P G (.regl ls pre mid post) t H Q :=
  lavc_regq _ (lputs_length _ _ _) (lputs_same _ _ _) hf h
theorem lopsF_step {F : AHeap → Prop} {o : LOp} {rest : List LOp} {t : List AV} {H : AHeap} {K : List AV → AHeap → Prop} (hF : F H)
    (h : ∀ K' : List AV → AHeap → Prop, (∀ t H, lopsF P G F rest t H K → K' t H) → lguard t o.g (aopO P G false (nxL rest) (aenv G t) H o.op fun r H' => K' (tput t o.d r) H') (K' (tput t o.d (.v undef)) H)) : lopsF P G F (o :: rest) t H K :=
  ⟨hF, h _ fun _ _ h => h⟩
theorem lopsF_nil {F : AHeap → Prop} {t : List AV} {H : AHeap} {K : List AV → AHeap → Prop} (hF : F H) (h : K t H) : lopsF P G F [] t H K := ⟨hF, h⟩
theorem ibits_or (k : IntKind) (x y : Int) : ibits .or k x y = bits .or k x y := rfl
theorem ibits_and (k : IntKind) (x y : Int) : ibits .and k x y = bits .and k x y := rfl
theorem ibits_xor (k : IntKind) (x y : Int) : ibits .xor k x y = bits .xor k x y := rfl
theorem i64n (n : Int) (m : Nat) (h : n = m) (hm : m ≤ 9223372036854775807) : IntKind.i64.wrap n = m := by rw [IntKind.wrap_i64]; omega
theorem i64z (n : Int) (h : -9223372036854775808 ≤ n ∧ n ≤ 9223372036854775807) : IntKind.i64.wrap n = n := by rw [IntKind.wrap_i64]; omega
theorem tmodN (a b : Nat) : (a : Int).tmod b = ((a % b : Nat) : Int) := Int.ofNat_tmod a b
theorem tdivN (a b : Nat) : (a : Int).tdiv b = ((a / b : Nat) : Int) := rfl
def blank (t : List AV) (ms : List Nat) : List AV := ms.foldl (fun t i => t.set i .any) t
def putAll (t : List AV) (l : List (Nat × AV)) : List AV := l.foldl (fun t p => t.set p.1 p.2) t
/-- A loop; ms: what its rounds turn; live: what of that is known at a round's begin. -/
theorem lavc_loopM {c : LCode} (ms : List Nat) {X : Type} (I : Nat → X → Prop) (live : X → List (Nat × AV)) (hp : X → AHeap) (n0 : Nat) (x0 : X) (h0 : I n0 x0) (ht : ALe t (putAll (blank t ms) (live x0))) (hh : H = hp x0)
    (h : ∀ n x, I n x → lavc P G c (putAll (blank t ms) (live x)) (hp x) fun e t' H' => match e with
      | .normal => ∃ n' x', n' < n ∧ I n' x' ∧ ALe t' (putAll (blank t ms) (live x')) ∧ H' = hp x'
      | e => Q e t' H') : lavc P G (.loop c) t H Q := lavc_loop0 I _ hp n0 x0 [] [] ⟨h0, ht, hh⟩ h
/-- Blocks are read only from here. -/
theorem lavc_fz (bs : List Nat) {c : LCode} (h : afz bs t H fun t H => lavc P G c t H Q) : lavc P G c t H Q := fun imp c0 hc hm ro nn σ0 H0 w0 σ a w s x => by
  obtain ⟨t', H', σ', h, s', x'⟩ := afz_ok h s
  exact h imp c0 hc hm ro nn σ0 H0 w0 σ' a w s' (x.trans x')
/-- Slices of nothing get blocks. -/
theorem lavc_gh (gs : List (Nat × Nat × TypeId)) {c : LCode} (h : agh gs t H fun t H => lavc P G c t H Q) : lavc P G c t H Q := fun imp c0 hc hm ro nn σ0 H0 w0 σ a w s x => by
  obtain ⟨t', H', h, s', x'⟩ := agh_ok h s
  exact h imp c0 hc hm ro nn σ0 H0 w0 σ a w s' (x.trans x')
/-- Ways that meet again; ms: what they turn; live: what of that is known where they meet. -/
theorem lavc_join {a : LCode} (ms : List Nat) {X : Type} (I : X → Prop) (live : X → List (Nat × AV)) (hp : X → AHeap)
    (h1 : lavc P G a t H fun e t' H' => match e with
      | .normal => ∃ x, I x ∧ ALe t' (putAll (blank t ms) (live x)) ∧ H' = hp x
      | e => Q e t' H') {b : LCode} (h2 : ∀ x, I x → lavc P G b (putAll (blank t ms) (live x)) (hp x) Q) : lavc P G a t H fun e t' H' => match e with
      | .normal => lavc P G b t' H' Q
      | e => Q e t' H' := lavc_mono h1 fun e t' H' h => by
  cases e with
  | normal =>
    obtain ⟨x, hx, hle, rfl⟩ := h
    exact lavc_weak (h2 x hx) hle
  | _ => exact h
/-- The same; ahead of it slices of nothing get blocks. -/
theorem lavc_loopG {c : LCode} (gs : List (Nat × Nat × TypeId)) (ms : List Nat) {X : Type} (I : Nat → X → Prop) (live : X → List (Nat × AV)) (hp : X → AHeap) (n0 : Nat) (x0 : X) (h0 : I n0 x0)
    (hg : agh gs t H fun t' H' => ALe t' (putAll (blank t ms) (live x0)) ∧ H' = hp x0)
    (h : ∀ n x, I n x → lavc P G c (putAll (blank t ms) (live x)) (hp x) fun e t' H' => match e with
      | .normal => ∃ n' x', n' < n ∧ I n' x' ∧ ALe t' (putAll (blank t ms) (live x')) ∧ H' = hp x'
      | e => Q e t' H') : lavc P G (.loop c) t H Q := lavc_loop0 I _ hp n0 x0 gs [] (agh_mono (fun _ _ h => ⟨h0, h.1, h.2⟩) hg) h
theorem lavc_reg_gh (gs : List (Nat × Nat × TypeId)) {pre post : List LOp} (h : agh gs t H fun t H => lops P G true pre t H fun t' H' => lops P G false post t' H' (Q .normal)) : lavc P G (.reg pre post) t H Q := lavc_reg0 ⟨gs, [], h⟩
theorem shlI_le (k : IntKind) (x n : Int) (h : n.toNat ≤ k.bits) : shlI k x n = k.wrap (x * 2 ^ n.toNat) := by rw [shlI, Nat.min_eq_left h]
theorem shrI_le (k : IntKind) (x n : Int) (h : n.toNat ≤ k.bits) : shrI k x n = x / 2 ^ n.toNat := by
  rw [shrI, Nat.min_eq_left h, Int.fdiv_eq_ediv_of_nonneg]
  exact Int.le_of_lt (Int.pow_pos (by decide))
theorem PCall.go {n : FuncId} {args : List AV} {r : AV} (h : PCall P G n args r) (H : AHeap) : ACall P G true n args H r H := h H
theorem MCall.go {n : FuncId} {args : List AV} {k k' : Blk} {r : AV} (h : MCall P G n args k r k') (H : AHeap) (b : Nat) (hb : H[b]? = some k) : ACall P G false n (.ptr b k.ver 0 :: args) H r (H.set b k') := h H b hb
theorem NCall.go {n : FuncId} {args : List AV} {e : TypeId} {len cap sz : Nat} {x : Bool} {cs : List AV} (h : NCall P G n args e len cap sz x cs) (H : AHeap) : ACall P G true n args H (.sl H.length 0 0 len cap sz x) (H ++ [⟨cs, 0, true, e⟩]) := h H
theorem rep_ints (k : IntKind) (n : Nat) : List.replicate n (AV.v (Value.int k 0)) = ints k (List.replicate n 0) := by simp [ints]
theorem splice_intsR (k : IntKind) (l m : List Int) (off : Nat) : splice (ints k l) off (ints k m) = ints k (l.take off ++ m ++ l.drop (off + m.length)) := by simp [splice, ints]
theorem splice_one {cs : List AV} {off : Nat} {v : AV} (h : off < cs.length) : splice cs off [v] = cs.set off v := by
  apply List.ext_getElem?
  intro j
  rw [splice_get (by simp; omega)]
  simp only [List.length_singleton, List.getElem?_set]
  by_cases hj : off = j
  · subst hj
    simp [h]
  · rw [if_neg (by omega), if_neg hj]
theorem ints_set (k : IntKind) (l : List Int) (off : Nat) (x : Int) : (ints k l).set off (.v (.int k x)) = ints k (l.set off x) := by simp [ints, List.map_set]
theorem rep_slice (n : Nat) (A : Option Addr) (a b : Nat) : List.replicate (n + 1) (AV.v (.slice A a b)) = AV.v (.slice A a b) :: List.replicate n (AV.v (.slice A a b)) := rfl
theorem rep_string (n : Nat) (s : ByteArray) : List.replicate (n + 1) (AV.v (.string s)) = AV.v (.string s) :: List.replicate n (AV.v (.string s)) := rfl
theorem rep_bool (n : Nat) (s : Bool) : List.replicate (n + 1) (AV.v (.bool s)) = AV.v (.bool s) :: List.replicate n (AV.v (.bool s)) := rfl
theorem rep_iface (n : Nat) : List.replicate (n + 1) (AV.v .nilIface) = AV.v .nilIface :: List.replicate n (AV.v .nilIface) := rfl
theorem fz_ints (b : Nat) (k : Blk) (i : IntKind) (l : List Int) : (ints i l).map (fzS b k) = ints i l := by simp [ints, fzS]
theorem Flat.ints (k : IntKind) (l : List Int) : ∀ c ∈ ints k l, Flat c := by
  intro c hc
  simp only [Go.Abs.ints, List.mem_map] at hc
  obtain ⟨n, _, rfl⟩ := hc
  exact .v _
/-- An owned row may be looked at by what it holds. -/
theorem NCall.view {n : FuncId} {args : List AV} {e : TypeId} {len cap sz : Nat} {x : Bool} {cs : List AV} (hG : GN G) (h : NCall P G n args e len cap sz x cs) (hargs : ∀ a ∈ args, NR a) (hcs : ∀ c ∈ cs, NR c) (hc : len ≤ cap) (hf : len * sz ≤ cs.length) : PCall P G n args (.vsl len (cs.take (len * sz)) none) := by
  refine PCall.of hG hargs (NR.vsl fun c hc => hcs c (List.mem_of_mem_take hc)) ⟨(h []).1, fun σ w us h1 h2 rel => ((h []).2 σ w us h1 h2 rel).mono fun e' w' ⟨u, he, σ', a1, a2, a3, _⟩ => ⟨u, he, ?_⟩⟩
  have := Res.cut hG rel a2 a3 (lo := 0) (Nat.le_refl _) (Nat.zero_le _) (rv := .sl 0 0 0 len cap sz x) (r' := .vsl len (cs.take (len * sz)) none) (View.sl (k := ⟨cs, 0, true, e⟩) (Nat.zero_le _) rfl rfl rfl hc (by simpa using hf) hcs) a1 (fun b k hb => absurd hb (Nat.not_lt_zero _))
  simpa using this
/-- A call's end. -/
def Fin (lo : Nat) (H : AHeap) (r r0 : AV) (H0' : AHeap) : Prop := View lo H r r0 ∧ lo ≤ H.length ∧ (∀ (b : Nat) (k : Blk), b < lo → H[b]? = some k → ∀ c ∈ k.cells, NR c) ∧ H.take lo = H0'
theorem end0 {r r0 : AV} (hr : NR r0) (h : r = r0) : Fin 0 H r r0 [] :=
  ⟨h ▸ .nr (h ▸ hr), Nat.zero_le _, fun b k hb => absurd hb (Nat.not_lt_zero _), List.take_zero⟩
theorem endS {b ver off len cap sz : Nat} {x : Bool} {k : Blk} {cs : List AV} (hk : H[b]? = some k) (hl : k.live = true) (hv : k.ver = ver) (hc : len ≤ cap) (hf : off + len * sz ≤ k.cells.length) (hn : ∀ c ∈ k.cells, NR c) (h : (k.cells.drop off).take (len * sz) = cs) :
    Fin 0 H (.sl b ver off len cap sz x) (.vsl len cs none) [] :=
  ⟨h ▸ .sl (Nat.zero_le _) hk hl hv hc hf hn, Nat.zero_le _, fun b k hb => absurd hb (Nat.not_lt_zero _), List.take_zero⟩
theorem end1 {r r0 : AV} {k k' : Blk} (hr : NR r0) (h : r = r0) (hn : ∀ c ∈ k'.cells, NR c) (hk : k = k') : Fin 1 (k :: H) r r0 [k'] := by
  subst hk
  refine ⟨h ▸ .nr (h ▸ hr), by simp, fun b k1 hb h1 => ?_, rfl⟩
  have : b = 0 := by omega
  subst this
  cases h1
  exact hn
/-- An owned row, which alone is handed out. -/
theorem endN {ver off len cap sz : Nat} {x : Bool} {k k' : Blk} (hn : ∀ c ∈ k'.cells, NR c) (hk : k = k') : Fin 1 (k :: H) (.sl 0 ver off len cap sz x) (.sl 0 ver off len cap sz x) [k'] := by
  subst hk
  refine ⟨.keep (by omega), by simp, fun b k1 hb h1 => ?_, rfl⟩
  have : b = 0 := by omega
  subst this
  cases h1
  exact hn
theorem NR.tup0 : NR (.tup []) := NR.tup (by simp)
/-- A row of numbers that was written is handed out to be read. -/
theorem endI {b ver n cap : Nat} {x : Bool} {kd : IntKind} {l : List Int} {e : TypeId} (hk : H[b]? = some ⟨ints kd l, ver, true, e⟩) (hl : l.length = n) (hc : n ≤ cap) : Fin 0 H (.sl b ver 0 n cap 1 x) (.vsl n (ints kd l) none) [] := by
  subst hl
  exact endS hk rfl rfl hc (by simp [ints_length]) (NR.ints _ _) (by simp [List.take_of_length_le, ints_length])
theorem set_concat {α : Type} (l : List α) (a b : α) : (l ++ [a]).set l.length b = l ++ [b] := by
  simp
theorem get_concat {α : Type} (l : List α) (a : α) : (l ++ [a])[l.length]? = some a := by simp
/-- What is handed out beside other values. -/
theorem viewI {b ver n cap m : Nat} {x : Bool} {kd : IntKind} {l : List Int} {e : TypeId} {lo : Nat} (hlo : lo ≤ b) (hk : H[b]? = some ⟨ints kd l, ver, true, e⟩) (hl : n ≤ l.length) (hc : n ≤ cap) : View lo H (.sl b ver 0 n cap 1 x) (.vsl n (ints kd (l.take n)) none) := by
  have := View.sl (x := x) (off := 0) (len := n) (cap := cap) (sz := 1) hlo hk rfl rfl hc (by simp [ints_length]; omega) (NR.ints kd l)
  simpa [ints_take] using this
theorem view2 {lo : Nat} {a b a' b' : AV} (h1 : View lo H a a') (h2 : View lo H b b') : View lo H (.tup [a, b]) (.tup [a', b']) := by
  refine .tup rfl (fun j hj => ?_)
  match j, hj with
  | 0, _ => exact h1
  | 1, _ => exact h2
theorem endV {r r0 : AV} (h : View 0 H r r0) : Fin 0 H r r0 [] := ⟨h, Nat.zero_le _, fun b k hb => absurd hb (Nat.not_lt_zero _), List.take_zero⟩
/-- A block, looked at otherwise. -/
theorem Rel.look {σ : Sig} {w : World} (r : Rel G σ H w) {b : Nat} {k : Blk} (hk : H[b]? = some k) (cs : List AV) (hl : cs.length = k.cells.length) (h : ∀ j u, j < cs.length → AR σ w (k.cells.getD j .any) u → AR σ w (cs.getD j .any) u) :
    Rel G σ (H.set b { k with cells := cs }) w ∧ Ext σ H w σ (H.set b { k with cells := cs }) w := by
  have hlt : b < H.length := (List.getElem?_eq_some_iff.1 hk).1
  have hget : ∀ (b' : Nat) (k' : Blk), (H.set b { k with cells := cs })[b']? = some k' → H[b']? = some k' ∨ (b' = b ∧ k' = { k with cells := cs }) := by
    intro b' k' h
    rw [List.getElem?_set] at h
    split at h
    · rename_i e
      subst e
      try rw [if_pos hlt] at h
      exact .inr ⟨rfl, (Option.some.inj h).symm⟩
    · exact .inl h
  have hold : ∀ (b' : Nat) (k' : Blk), (H.set b { k with cells := cs })[b']? = some k' → ∃ k0, H[b']? = some k0 ∧ k0.live = k'.live ∧ k0.ver = k'.ver := by
    intro b' k' h
    rcases hget b' k' h with h | ⟨rfl, rfl⟩
    · exact ⟨k', h, rfl, rfl⟩
    · exact ⟨k, hk, rfl, rfl⟩
  refine ⟨⟨?_, ?_, ?_, r.roLt, ?_, r.glob, r.base0⟩, ⟨rfl, rfl, rfl, Nat.le_refl _, fun _ _ _ h => h, fun _ h => h, fun _ _ _ => rfl, fun _ _ _ h => .inl h, ?_, fun B h => .inl h, by simp⟩⟩
  · intro b' k' l h1 h2 h3
    rcases hget b' k' h1 with h4 | ⟨rfl, rfl⟩
    · exact r.blk b' k' l h4 h2 h3
    · obtain ⟨C, fr, c1, c2, c3, c4, c5⟩ := r.blk b' k l hk h2 h3
      refine ⟨C, fr, c1, c2, by rw [hl]; exact c3, c4, fun j hj => ?_⟩
      obtain ⟨u, d1, d2⟩ := c5 j (hl ▸ hj)
      exact ⟨u, d1, h j u hj d2⟩
  · intro b1 b2 k1 k2 l1 l2 h1 h2 h3 g1 g2 g3 e
    obtain ⟨k1', a1, a2, a3⟩ := hold _ _ h1
    obtain ⟨k2', c1, c2, c3⟩ := hold _ _ g1
    exact r.inj b1 b2 k1' k2' l1 l2 a1 (a2.trans h2) (by rw [a3]; exact h3) c1 (c2.trans g2) (by rw [c3]; exact g3) e
  · intro b' k' l h1 h2 h3
    obtain ⟨k0, a1, a2, a3⟩ := hold _ _ h1
    exact r.apart b' k0 l a1 (a2.trans h2) (by rw [a3]; exact h3)
  · intro b' ver l h1
    obtain ⟨k0, a1, a2⟩ := r.fresh b' ver l h1
    by_cases e : b' = b
    · subst e
      rw [hk] at a1
      cases a1
      exact ⟨_, List.getElem?_set_self hlt, a2⟩
    · exact ⟨k0, by rw [List.getElem?_set_ne (fun e' => e e'.symm)]; exact a1, a2⟩
  · intro b' k' l h1 h2 h3
    obtain ⟨k0, a1, a2, a3⟩ := hold _ _ h1
    exact ⟨k0, a1, a2.trans h2, a3⟩
/-- A builder that was made just now. -/
theorem lavc_bld (b : Nat) (e : TypeId) {c : LCode} {k : Blk} (hk : H[b]? = some k) (hc : k.cells = [.v (.pointer none), .v (.slice none 0 0)]) (h : lavc P G c t (H.set b ⟨[.bad b k.ver, .bsl H.length 0 0], k.ver, k.live, k.elem⟩ ++ [⟨ints .u8 [], 0, true, e⟩]) Q) : lavc P G c t H Q := fun imp c0 hc0 hm ro nn σ0 H0 w0 σ a w s x => by
  obtain ⟨r1, x1⟩ := s.rel.look hk [.bad b k.ver, .bsl H.length 0 0] (by rw [hc]; rfl) (fun j u hj hu => by
    rw [hc] at hu
    match j, hj with
    | 0, _ =>
      simp only [List.getD_cons_zero] at hu ⊢
      cases hu
      exact .bad0
    | 1, _ =>
      simp only [List.getD_cons_zero, List.getD_cons_succ] at hu ⊢
      cases hu
      exact .bsl0)
  obtain ⟨r2, x2⟩ := r1.ghost ⟨ints .u8 [], 0, true, e⟩
  exact h imp c0 hc0 hm ro nn σ0 H0 w0 σ a w ⟨s.defers, s.size, s.tmps, r2⟩ (x.trans (x1.trans x2))
/-- A loop, round by round. -/
def lavcR (P : Program) (G : Glob) (c : LCode) (Q : APost) : Nat → List AV → AHeap → Prop
  | 0, _, _ => False
  | n + 1, t, H => lavc P G c t H fun e t' H' => match e with
    | .normal => lavcR P G c Q n t' H'
    | e => Q e t' H'
theorem lavcR_round {c : LCode} {n : Nat} (h : lavc P G c t H fun e t' H' => match e with
    | .normal => lavcR P G c Q n t' H'
    | e => Q e t' H') : lavcR P G c Q (n + 1) t H := h
theorem lavc_rounds (n : Nat) {c : LCode} (h : lavcR P G c Q n t H) : lavc P G (.loop c) t H Q := fun imp c0 hc hm ro nn σ0 H0 w0 σ a w s x => by
  cases c0 with
  | loop c' =>
    simp only [strip, LCode.loop.injEq] at hc
    have key : ∀ (n : Nat) (t : List AV) (H : AHeap) (σ : Sig) (a : Act) (w : World), lavcR P G c Q n t H → Sim G σ t H a w → Ext σ0 H0 w0 σ H w → Code.roundsIn (wr ro) nn P c' (CPost G σ0 H0 w0 Q) n a w := by
      intro n
      induction n with
      | zero => exact fun t H σ a w h _ _ => h.elim
      | succ n ih =>
        intro t H σ a w h s x
        refine Code.wpIn_mono (fun e a2 w2 hq => ?_) (h imp c' hc hm ro nn σ0 H0 w0 σ a w s x)
        obtain ⟨t2, H2, σ2, k1, k2, k3⟩ := hq
        cases e with
        | normal => exact ih _ _ _ _ _ k1 k2 k3
        | _ => exact ⟨t2, H2, σ2, k1, k2, k3⟩
    exact wpIn_loop_rounds n (key n t H σ a w h s x)
  | region id ops draw => rcases no_reg hc with ⟨_, _, e⟩ | ⟨_, _, _, _, e⟩ | e <;> cases e
  | _ => simp only [strip, reduceCtorEq] at hc
theorem lavc_condT {c : Operand} {a b : LCode} (hx : aenv G t c = .v (.bool true)) (h : lavc P G a t H Q) : lavc P G (.cond c a b) t H Q := lavc_cond hx (fun _ => h) (fun e => by cases e)
theorem lavc_condF {c : Operand} {a b : LCode} (hx : aenv G t c = .v (.bool false)) (h : lavc P G b t H Q) : lavc P G (.cond c a b) t H Q := lavc_cond hx (fun e => by cases e) (fun _ => h)
/-- Side conditions: their proofs are looked for where they are used. -/
theorem dch {p : Prop} (h : p := by first | omega | (simp only [go_sem, isRow, isFlat, Option.isSome_some]; done) | assumption | (simp only [ints_length, List.length_replicate, List.length_set, List.length_append, List.length_take, List.length_drop, List.length_cons, List.length_nil] <;> omega) | fail) : p := h
theorem acl {p : Prop} (h : p := by first | omega | rfl | assumption | decide) : p := h
theorem nrs {l : List AV} (h : ∀ c ∈ l, NR c := by (repeat (refine List.forall_mem_cons.2 (And.intro (by first | exact NR.v _ | exact NR.agg (NR.ints _ _) | exact NR.vsl (NR.ints _ _) | exact NR.vptr (NR.ints _ _) | assumption) ?_))); exact fun _ h => absurd h List.not_mem_nil) : ∀ c ∈ l, NR c := h
end Go.Abs
